-- Laid by a program of this session: a turned copy of the kit's print, with contracts by hand beside.
import Derived.Test.YtnahkojlamficaaPFnFailingx0
import Derived.Test.YtnahkojlamficaaPFnFailingx2
import Derived.Test.YtnahkojlamficaaPFnFailingx4
import Derived.Test.YtnahkojlamficaaPFnFailingx6
import Derived.Test.YtnahkojlamficaaPFnFailingx8
import Derived.Test.YtnahkojlamficaaPFnFailingx11
namespace Go.Proofs.Ytnahkojlamficaa.PFnFailing
open Go.RowKit Go.Proofs.YtnahkojlamficaaW.PrintWords Go.Proofs.YtnahkojlamficaaW.PrintLast Go.Proofs.YtnahkojlamficaaW.PrintMore
theorem zbc0 {X : Prop} (h : X := by (try simp only [List.map_toArray, List.map_cons, List.map_nil]); first | done | rfl | (simp only [List.length_drop, List.length_take]; rfl)) : X := h
theorem zbc1 {X : Prop} (h : X := by repeat (first | exact HR0.out | (with_reducible refine Kd.C_alloc ?_ _) | (with_reducible refine Kd.C_drewN ?_ _) | (with_reducible refine Kd.C_drew ?_))) : X := h
theorem zbc2 {X : Prop} (h : X := by first | rfl | (simp [errW_none, errW_some] <;> rfl) | (simp [*, errW_none, errW_some] <;> rfl)) : X := h
theorem zbc3 {X : Prop} (h : X := by repeat (first | (with_reducible first | exact HB.out | apply below_alloc | apply pw_below_drewN | apply below_drew1) | exact HB.out)) : X := h
theorem zbc4 {A0 X : Prop} (a0 : A0) (h : A0 → X := by intro a0_; repeat (first | exact (Kd.S_reads' a0_).2.2 | (with_reducible refine Kd.C_alloc ?_ _) | (with_reducible refine Kd.C_drewN ?_ _) | (with_reducible refine Kd.C_drew ?_))) : X := h a0
theorem zbc5 {A0 X : Prop} (a0 : A0) (h : A0 → X := by intro a0_; repeat (first | exact (Kd.R_reads' a0_).2.2 | (with_reducible refine Kd.C_alloc ?_ _) | (with_reducible refine Kd.C_drewN ?_ _) | (with_reducible refine Kd.C_drew ?_))) : X := h a0
theorem zbc6 {A0 X : Prop} (a0 : A0) (h : A0 → X := by intro a0_; (with_reducible repeat (first | apply Kd.S_alloc | apply Kd.S_drewN | apply Kd.S_drew)); exact a0_) : X := h a0
theorem zbc7 {A0 X : Prop} (a0 : A0) (h : A0 → X := by intro a0_; (with_reducible repeat (first | apply Kd.R_alloc | apply Kd.R_drewN | apply Kd.R_drew)); exact a0_) : X := h a0
theorem zbc8 {X : Prop} (h : X := by first | rfl | (simp; done) | (simp [*]; done)) : X := h
theorem zbc9 {A0 X : Prop} (a0 : A0) (h : A0 → X := by intro a0_; (with_reducible repeat (first | apply Kd.R_alloc | apply Kd.R_drewN | apply Kd.R_drew)); exact Kd.R_mono a0_ (fun _ hk => hk.1.2)) : X := h a0
theorem zbc10 {X : Prop} (h : X := by first | (with_reducible assumption) | assumption) : X := h
theorem zbc11 {A0 X : Prop} (a0 : A0) (h : A0 → X := by intro a0_; repeat (first | (with_reducible exact a0_) | (with_reducible refine Kd.C_alloc ?_ _) | (with_reducible refine Kd.C_drewN ?_ _) | (with_reducible refine Kd.C_drew ?_) | exact a0_)) : X := h a0
theorem zbc12 {X : Prop} (h : X := by first | exact q271 | exact of_decide_eq_true (by first | (with_reducible assumption) | assumption) | (have e_ := (Kd.S_reads' HO_3.out).1; omega)) : X := h
theorem zbc13 {X : Prop} (h : X := by first | exact q272 | exact of_decide_eq_true (by first | (with_reducible assumption) | assumption) | (have e_ := (Kd.S_reads' HO_3.out).1; omega)) : X := h
theorem zbc14 {X : Prop} (h : X := by first | exact q278 | exact of_decide_eq_true (by first | (with_reducible assumption) | assumption) | (have e_ := (Kd.S_reads' HO_3.out).1; omega)) : X := h
theorem zbc15 {A0 X : Prop} (a0 : A0) (h : A0 → X := by intro a0_; (with_reducible repeat (first | apply Kd.R_alloc | apply Kd.R_drewN | apply Kd.R_drew)); exact Kd.R_mono a0_ (fun _ hk => hk.2)) : X := h a0
theorem zbc16 {X : Prop} (h : X := by first | rfl | (simp [errW_none, errW_some] <;> rfl) | (simp only [← hji31]; first | rfl | (simp [errW_none, errW_some] <;> rfl)) | (simp [*, errW_none, errW_some] <;> rfl)) : X := h
attribute [local go_sem] max2_int min2_int max_two min_two max_three min_three max_four min_four   -- for this text's walks alone
set_option linter.unusedVariables false
set_option linter.unusedSimpArgs false

/-! ### laws_FnFailing: function 9 -/
mutual
def laws_FnFailing.l0 : Nat → List (S55) → List ByteArray → List ByteArray → Int → Option (Bool)
 | 0, _, _, _, _ => none
 | k + 1, x3, x4, x5, x6 => if x6 < (x3.length : Int) then (if 0 ≤ x6 then ((laws_has.f k x4 ((rd_T55 x3 x6).f0)).bind fun t270 => (laws_FnFailing.l1 k x3 x4 x5 x6 t270 0)) else (none)) else (if 0 ≤ (wrap64 ((x4.length : Int) / 2)) then (if (wrap64 ((x4.length : Int) / 2)) ≤ (x4.length : Int) then ((impl_Failing.f k x3 (x4.take ((wrap64 ((x4.length : Int) / 2)) : Int).toNat)).bind fun t284 => (laws_FnFailing.l2 k x5 t284 0)) else (none)) else (none))
def laws_FnFailing.l1 : Nat → List (S55) → List ByteArray → List ByteArray → Int → Bool → Int → Option (Bool)
 | 0, _, _, _, _, _, _ => none
 | k + 1, x3, x4, x5, x6, x7, x8 => if 0 ≤ x6 then (if x6 < (x3.length : Int) then (if x8 < (((rd_T55 x3 x6).f2).length : Int) then (if x7 = true then (laws_FnFailing.l1 k x3 x4 x5 x6 true (wrap64 (x8 + 1))) else (if 0 ≤ x8 then ((laws_unit.f k x3 (rdOf ByteArray.empty ((rd_T55 x3 x6).f2) x8)).bind fun t274 => (if t274 < 0 then (laws_FnFailing.l1 k x3 x4 x5 x6 true (wrap64 (x8 + 1))) else ((laws_has.f k x5 (rdOf ByteArray.empty ((rd_T55 x3 x6).f2) x8)).bind fun t277 => (laws_FnFailing.l1 k x3 x4 x5 x6 t277 (wrap64 (x8 + 1)))))) else (none))) else ((laws_has.f k x5 ((rd_T55 x3 x6).f0)).bind fun t279 => (if (x7 != t279) = true then (some false) else (laws_FnFailing.l0 k x3 x4 x5 (wrap64 (x6 + 1)))))) else (none)) else (none)
def laws_FnFailing.l2 : Nat → List ByteArray → List ByteArray → Int → Option (Bool)
 | 0, _, _, _ => none
 | k + 1, x5, x9, x10 => if x10 < (x9.length : Int) then (if 0 ≤ x10 then ((laws_has.f k x5 (rdOf ByteArray.empty x9 x10)).bind fun t288 => (if t288 = true then (laws_FnFailing.l2 k x5 x9 (wrap64 (x10 + 1))) else (some false))) else (none)) else ((impl_UnitsOk.f k (([] : List (S55)))).bind fun t292 => (some t292))
end
def laws_FnFailing.f (k : Nat) (l0 : List Int) : Option (Bool) := (laws_big.f l0).bind fun t251 => (if t251 = true then (some true) else ((spec_DrawFailing.f k l0).bind fun bt252 => ((impl_Failing.f k bt252.1 bt252.2).bind fun t258 => ((spec_UnitsOk.f k bt252.1).bind fun t261 => (if t261 = true then ((spec_Failing.f k bt252.1 bt252.2).bind fun t266 => (if (t258.length : Int) = (t266.length : Int) then (laws_FnFailing.l0 k bt252.1 bt252.2 t258 0) else (some false))) else (if (t258.length : Int) = 0 then ((impl_UnitsOk.f k (([] : List (S55)))).bind fun t265 => (some t265)) else (some false)))))))
theorem laws_FnFailing.mono_l : ∀ k, (∀ y0 y1 y2 y3, LeO (laws_FnFailing.l0 k y0 y1 y2 y3) (laws_FnFailing.l0 (k + 1) y0 y1 y2 y3)) ∧ (∀ y0 y1 y2 y3 y4 y5, LeO (laws_FnFailing.l1 k y0 y1 y2 y3 y4 y5) (laws_FnFailing.l1 (k + 1) y0 y1 y2 y3 y4 y5)) ∧ (∀ y0 y1 y2, LeO (laws_FnFailing.l2 k y0 y1 y2) (laws_FnFailing.l2 (k + 1) y0 y1 y2))
 | 0 => ⟨fun _ _ _ _ r h => by simp [laws_FnFailing.l0] at h, fun _ _ _ _ _ _ r h => by simp [laws_FnFailing.l1] at h, fun _ _ _ r h => by simp [laws_FnFailing.l2] at h⟩
 | k + 1 => by
  obtain ⟨ih0, ih1, ih2⟩ := laws_FnFailing.mono_l k
  refine ⟨?_, ?_, ?_⟩ <;> intros <;> (first | unfold laws_FnFailing.l0 | unfold laws_FnFailing.l1 | unfold laws_FnFailing.l2) <;>
   repeat' first
   | (with_reducible exact ih0 _ _ _ _)
   | (with_reducible exact ih1 _ _ _ _ _ _)
   | (with_reducible exact ih2 _ _ _)
   | (with_reducible exact impl_Failing.mono _ _ _)
   | (with_reducible exact impl_UnitsOk.mono _ _)
   | (with_reducible exact laws_has.mono _ _ _)
   | (with_reducible exact laws_unit.mono _ _ _)
   | (with_reducible exact spec_DrawFailing.mono _ _)
   | (with_reducible exact spec_Failing.mono _ _ _)
   | (with_reducible exact spec_UnitsOk.mono _ _)
   | (with_reducible exact LeO.refl _)
   | (with_reducible exact LeO.none _)
   | (with_reducible refine LeO.ite ?_ ?_)
   | (with_reducible refine LeO.bind ?_ (fun _ => ?_))
   | exact ih0 _ _ _ _
   | exact ih1 _ _ _ _ _ _
   | exact ih2 _ _ _
   | exact impl_Failing.mono _ _ _
   | exact impl_UnitsOk.mono _ _
   | exact laws_has.mono _ _ _
   | exact laws_unit.mono _ _ _
   | exact spec_DrawFailing.mono _ _
   | exact spec_Failing.mono _ _ _
   | exact spec_UnitsOk.mono _ _
   | exact LeO.none _
   | refine LeO.ite ?_ ?_
   | refine LeO.bind ?_ (fun _ => ?_)
theorem laws_FnFailing.mono : ∀ a0 k, LeO (laws_FnFailing.f k a0) (laws_FnFailing.f (k + 1) a0) := by
 intro a0 k
 obtain ⟨ih0, ih1, ih2⟩ := laws_FnFailing.mono_l k
 unfold laws_FnFailing.f
 repeat' first
   | (with_reducible exact ih0 _ _ _ _)
   | (with_reducible exact ih1 _ _ _ _ _ _)
   | (with_reducible exact ih2 _ _ _)
   | (with_reducible exact impl_Failing.mono _ _ _)
   | (with_reducible exact impl_UnitsOk.mono _ _)
   | (with_reducible exact laws_has.mono _ _ _)
   | (with_reducible exact laws_unit.mono _ _ _)
   | (with_reducible exact spec_DrawFailing.mono _ _)
   | (with_reducible exact spec_Failing.mono _ _ _)
   | (with_reducible exact spec_UnitsOk.mono _ _)
   | (with_reducible exact LeO.refl _)
   | (with_reducible exact LeO.none _)
   | (with_reducible refine LeO.ite ?_ ?_)
   | (with_reducible refine LeO.bind ?_ (fun _ => ?_))
   | exact ih0 _ _ _ _
   | exact ih1 _ _ _ _ _ _
   | exact ih2 _ _ _
   | exact impl_Failing.mono _ _ _
   | exact impl_UnitsOk.mono _ _
   | exact laws_has.mono _ _ _
   | exact laws_unit.mono _ _ _
   | exact spec_DrawFailing.mono _ _
   | exact spec_Failing.mono _ _ _
   | exact spec_UnitsOk.mono _ _
   | exact LeO.none _
   | refine LeO.ite ?_ ?_
   | refine LeO.bind ?_ (fun _ => ?_)
set_option maxHeartbeats 8000000 in
set_option maxRecDepth 100000 in
theorem laws_FnFailing.calls (k : Nat) (A0 : Option Addr) (c0 : Nat) (l0 : List Int) (r : Bool) (w : World) (hr0 : Kd.C (Kd.int .u8) w A0 l0.length l0) (hc0 : l0.length ≤ c0) (h : laws_FnFailing.f k l0 = some r) :
  Calls Try.prog 9 #[.slice A0 l0.length c0] w fun e w' => e = .returned (.bool r) ∧ Below w.heap.size w w' := by
 have HR0 := Aside0.mk hr0
 have HC0 := Aside0.mk hc0
 clear hr0 hc0
 have HB := Aside0.mk (Below.refl w.heap.size w)
 have H : ((laws_big.f l0).bind fun t251 => (if t251 = true then (some true) else ((spec_DrawFailing.f k l0).bind fun bt252 => ((impl_Failing.f k bt252.1 bt252.2).bind fun t258 => ((spec_UnitsOk.f k bt252.1).bind fun t261 => (if t261 = true then ((spec_Failing.f k bt252.1 bt252.2).bind fun t266 => (if (t258.length : Int) = (t266.length : Int) then (laws_FnFailing.l0 k bt252.1 bt252.2 t258 0) else (some false))) else (if (t258.length : Int) = 0 then ((impl_UnitsOk.f k (([] : List (S55)))).bind fun t265 => (some t265)) else (some false)))))))) = some r := h
 clear h
 replace H := Option.bind_eq_some_iff.mp H
 obtain ⟨t251, A20, H⟩ := H
 replace H : (if t251 = true then (some true) else ((spec_DrawFailing.f k l0).bind fun bt252 => ((impl_Failing.f k bt252.1 bt252.2).bind fun t258 => ((spec_UnitsOk.f k bt252.1).bind fun t261 => (if t261 = true then ((spec_Failing.f k bt252.1 bt252.2).bind fun t266 => (if (t258.length : Int) = (t266.length : Int) then (laws_FnFailing.l0 k bt252.1 bt252.2 t258 0) else (some false))) else (if (t258.length : Int) = 0 then ((impl_UnitsOk.f k (([] : List (S55)))).bind fun t265 => (some t265)) else (some false))))))) = some r := H
 have A2 := Aside0.mk A20
 clear A20
 by_cases c3 : t251 = true
 ·subst c3
  have H1 : (some true) = some r := by rw [if_pos rfl] at H; exact H
  clear H
  have H := H1
  clear H1
  obtain rfl := Option.some.inj H
  go_enter Try.func9, Try.ntmps9
  go_wp2_with (first | ((with_reducible refine gate_callee (f := 38) rfl ?_); refine goesL_ (some 12) rfl rfl Try.func38 (by kernel_rfl) rfl #[.slice A0 l0.length c0] rfl zbc0 ?_; (with_reducible refine (laws_big.calls _ _ l0 true _ ?side1 ?side2 A2.out).mono ?_); (case side1 => exact zbc1); (case side2 => exact HC0.out); rintro e w' ⟨rfl, ⟨nd, rfl⟩⟩; refine ⟨_, rfl, ?_⟩))
  go_ret
  exact ⟨zbc2, zbc3⟩
 ·replace c3 := Bool.eq_false_iff.mpr c3
  subst c3
  have H1 : ((spec_DrawFailing.f k l0).bind fun bt252 => ((impl_Failing.f k bt252.1 bt252.2).bind fun t258 => ((spec_UnitsOk.f k bt252.1).bind fun t261 => (if t261 = true then ((spec_Failing.f k bt252.1 bt252.2).bind fun t266 => (if (t258.length : Int) = (t266.length : Int) then (laws_FnFailing.l0 k bt252.1 bt252.2 t258 0) else (some false))) else (if (t258.length : Int) = 0 then ((impl_UnitsOk.f k (([] : List (S55)))).bind fun t265 => (some t265)) else (some false)))))) = some r := by rw [if_neg (show ¬ (false = true) by decide)] at H; exact H
  clear H
  have H := H1
  clear H1
  replace H := Option.bind_eq_some_iff.mp H
  obtain ⟨⟨t252, t253⟩, A40, H⟩ := H
  replace H : ((impl_Failing.f k t252 t253).bind fun t258 => ((spec_UnitsOk.f k t252).bind fun t261 => (if t261 = true then ((spec_Failing.f k t252 t253).bind fun t266 => (if (t258.length : Int) = (t266.length : Int) then (laws_FnFailing.l0 k t252 t253 t258 0) else (some false))) else (if (t258.length : Int) = 0 then ((impl_UnitsOk.f k (([] : List (S55)))).bind fun t265 => (some t265)) else (some false))))) = some r := H
  have A4 := Aside0.mk A40
  clear A40
  replace H := Option.bind_eq_some_iff.mp H
  obtain ⟨t258, A50, H⟩ := H
  replace H : ((spec_UnitsOk.f k t252).bind fun t261 => (if t261 = true then ((spec_Failing.f k t252 t253).bind fun t266 => (if (t258.length : Int) = (t266.length : Int) then (laws_FnFailing.l0 k t252 t253 t258 0) else (some false))) else (if (t258.length : Int) = 0 then ((impl_UnitsOk.f k (([] : List (S55)))).bind fun t265 => (some t265)) else (some false)))) = some r := H
  have A5 := Aside0.mk A50
  clear A50
  replace H := Option.bind_eq_some_iff.mp H
  obtain ⟨t261, A60, H⟩ := H
  replace H : (if t261 = true then ((spec_Failing.f k t252 t253).bind fun t266 => (if (t258.length : Int) = (t266.length : Int) then (laws_FnFailing.l0 k t252 t253 t258 0) else (some false))) else (if (t258.length : Int) = 0 then ((impl_UnitsOk.f k (([] : List (S55)))).bind fun t265 => (some t265)) else (some false))) = some r := H
  have A6 := Aside0.mk A60
  clear A60
  by_cases c7 : t261 = true
  ·subst c7
   have H1 : ((spec_Failing.f k t252 t253).bind fun t266 => (if (t258.length : Int) = (t266.length : Int) then (laws_FnFailing.l0 k t252 t253 t258 0) else (some false))) = some r := by rw [if_pos rfl] at H; exact H
   clear H
   have H := H1
   clear H1
   replace H := Option.bind_eq_some_iff.mp H
   obtain ⟨t266, A80, H⟩ := H
   replace H : (if (t258.length : Int) = (t266.length : Int) then (laws_FnFailing.l0 k t252 t253 t258 0) else (some false)) = some r := H
   have A8 := Aside0.mk A80
   clear A80
   by_cases c9 : (t258.length : Int) = (t266.length : Int)
   ·rw [if_pos c9] at H
    have c9b0 : ((t258.length : Int) == (t266.length : Int)) = true := beq_iff_eq.mpr c9
    have c9b1 : ((t258.length : Int) != (t266.length : Int)) = false := bne_eq_false_iff_eq.mpr c9
    have c9b2 : (t258.length == t266.length) = true := by first | simpa using c9 | (simp at c9 ⊢; omega)
    clear c9
    have H' := Aside0.mk H
    clear H
    go_enter Try.func9, Try.ntmps9
    go_wp2_with (first | ((with_reducible refine gate_callee (f := 38) rfl ?_); refine goesL_ (some 12) rfl rfl Try.func38 (by kernel_rfl) rfl #[.slice A0 l0.length c0] rfl zbc0 ?_; (with_reducible refine (laws_big.calls _ _ l0 false _ ?side1 ?side2 A2.out).mono ?_); (case side1 => exact zbc1); (case side2 => exact HC0.out); rintro e w' ⟨rfl, ⟨nd, rfl⟩⟩; refine ⟨_, rfl, ?_⟩) | ((with_reducible refine gate_callee (f := 39) rfl ?_); refine goesL_ (some 15) rfl rfl Try.func39 (by kernel_rfl) rfl #[.slice A0 l0.length c0] rfl zbc0 ?_; (with_reducible refine (spec_DrawFailing.calls k _ _ l0 t252 t253 _ ?side1 ?side2 A4.out).mono ?_); (case side1 => exact zbc1); (case side2 => exact HC0.out); rintro e w10 ⟨v254, v256, rfl, ho0, ho1, hb⟩; refine ⟨_, rfl, ?_⟩; have HO255 := Aside0.mk (Kd.S_lower ho0 (below_size qB)); have HO257 := Aside0.mk (Kd.R_lower ho1 (below_size qB)); replace HB := Aside0.mk (below_step qB hb); (try clear hb); (try clear hb2); (try clear hk); (try clear hi); (try clear ho0); (try clear ho1); obtain ⟨Ao11, co11, eo11⟩ := Kd.S_slice HO255.out; subst eo11; obtain ⟨Ao12, co12, eo12⟩ := Kd.R_slice HO257.out; subst eo12) | ((with_reducible refine gate_callee (f := 29) rfl ?_); refine goesL_ (some 20) rfl rfl Try.func29 (by kernel_rfl) rfl #[.slice Ao11 t252.length co11, .slice Ao12 t253.length co12] rfl zbc0 ?_; (with_reducible refine (impl_Failing.calls k _ _ t252 _ _ t253 t258 _ ?side1 ?side2 ?side3 ?side4 A5.out).mono ?_); (case side1 => exact zbc4 HO255.out); (case side2 => exact (Kd.S_reads' HO255.out).2.1); (case side3 => exact zbc5 HO257.out); (case side4 => exact (Kd.R_reads' HO257.out).2.1); rintro e w13 ⟨v259, rfl, ho0, hb⟩; refine ⟨_, rfl, ?_⟩; replace HO255 := Aside0.mk (Kd.S_elder' (zbc6 HO255.out) (Kd.R_base ho0) hb); have HO260 := Aside0.mk (Kd.R_lower (Kd.R_new' ho0 (Kd.R_lt (zbc7 HO257.out))) (below_size qB)); replace HO257 := Aside0.mk (Kd.R_elder' (zbc7 HO257.out) (Kd.R_base ho0) hb); replace HB := Aside0.mk (below_step qB hb); (try clear hb); (try clear hb2); (try clear hk); (try clear hi); (try clear ho0)) | ((with_reducible refine gate_callee (f := 13) rfl ?_); refine goesL_ (some 22) rfl rfl Try.func13 (by kernel_rfl) rfl #[.slice Ao11 t252.length co11] rfl zbc0 ?_; (with_reducible refine (spec_UnitsOk.calls k _ _ t252 true _ ?side1 ?side2 A6.out).mono ?_); (case side1 => exact zbc4 HO255.out); (case side2 => exact (Kd.S_reads' HO255.out).2.1); rintro e w14 ⟨rfl, hb⟩; refine ⟨_, rfl, ?_⟩; replace HO255 := Aside0.mk (Kd.S_below (zbc6 HO255.out) hb); replace HO257 := Aside0.mk (Kd.R_below (zbc7 HO257.out) hb); replace HO260 := Aside0.mk (Kd.R_below (zbc7 HO260.out) hb); replace HB := Aside0.mk (below_step qB hb); (try clear hb); (try clear hb2); (try clear hk); (try clear hi); obtain ⟨Ao15, co15, eo15⟩ := Kd.R_slice HO260.out; subst eo15) | ((with_reducible refine gate_callee (f := 28) rfl ?_); refine goesL_ (some 35) rfl rfl Try.func28 (by kernel_rfl) rfl #[.slice Ao11 t252.length co11, .slice Ao12 t253.length co12] rfl zbc0 ?_; (with_reducible refine (spec_Failing.calls k _ _ t252 _ _ t253 t266 _ ?side1 ?side2 ?side3 ?side4 A8.out).mono ?_); (case side1 => exact zbc4 HO255.out); (case side2 => exact (Kd.S_reads' HO255.out).2.1); (case side3 => exact zbc5 HO257.out); (case side4 => exact (Kd.R_reads' HO257.out).2.1); rintro e w16 ⟨v267, rfl, ho0, hb⟩; refine ⟨_, rfl, ?_⟩; replace HO255 := Aside0.mk (Kd.S_elder' (zbc6 HO255.out) (Kd.R_base ho0) hb); have HO268 := Aside0.mk (Kd.R_lower (Kd.R_new' (Kd.R_new' ho0 (Kd.R_lt (zbc7 HO257.out))) (Kd.R_lt (zbc7 HO260.out))) (below_size qB)); replace HO257 := Aside0.mk (Kd.R_elder' (zbc7 HO257.out) (Kd.R_base ho0) hb); replace HO260 := Aside0.mk (Kd.R_elder' (zbc7 HO260.out) (Kd.R_base ho0) hb); replace HB := Aside0.mk (below_step qB hb); (try clear hb); (try clear hb2); (try clear hk); (try clear hi); (try clear ho0); obtain ⟨Ao17, co17, eo17⟩ := Kd.R_slice HO268.out; subst eo17))
    go_loopg [6] k (fun kq v6 w' => ∃ (x6_1 : Int), v6 = .int .i64 x6_1 ∧ Aside0 (laws_FnFailing.l0 kq t252 t253 t258 x6_1 = some r) ∧ Aside0 (kq ≤ k) ∧ Aside0 (Kd.S k55 55 w' w.heap.size (fun k_ => some k_ ≠ ((.slice Ao12 t253.length co12) : Value).ownBlock ∧ some k_ ≠ ((.slice Ao15 t258.length co15) : Value).ownBlock) (.slice Ao11 t252.length co11) t252) ∧ Aside0 (Kd.R Kd.string 9 w' w.heap.size (fun k_ => some k_ ≠ ((.slice Ao15 t258.length co15) : Value).ownBlock) (.slice Ao12 t253.length co12) t253) ∧ Aside0 (Kd.R Kd.string 9 w' w.heap.size (fun k_ => some k_ ≠ ((.slice Ao12 t253.length co12) : Value).ownBlock) (.slice Ao15 t258.length co15) t258) ∧ Aside0 (Below w.heap.size w w'))
    case atStart => exact ⟨(0), zbc8, H', ⟨Nat.le_refl _⟩, ⟨by (with_reducible repeat (first | apply Kd.S_alloc | apply Kd.S_drewN | apply Kd.S_drew)); exact Kd.S_mono HO255.out (fun _ hk => ⟨hk.1.1, hk.1.2⟩)⟩, ⟨zbc9 HO257.out⟩, ⟨zbc9 HO260.out⟩, ⟨zbc3⟩⟩
    case round =>
     clear H'
     try clear c1
     try clear c2
     try clear p2
     try clear c3
     try clear c7
     try clear c9
     try clear c9b0
     try clear c9b1
     try clear c9b2
     try clear c13
     obtain ⟨x6_1, rfl, HA, HK1, HO_3, HO_4, HO_5, HB⟩ := hrel
     cases gk with
     | zero => exact absurd HA.out (by simp [laws_FnFailing.l0])
     | succ k1 =>
      have H := HA.out
      clear HA
      simp only [laws_FnFailing.l0] at H
      by_cases c18 : x6_1 < (t252.length : Int)
      ·rw [if_pos c18] at H
       have c18b0 : decide (x6_1 < (t252.length : Int)) = true := decide_eq_true c18
       clear c18
       by_cases c19 : 0 ≤ x6_1
       ·rw [if_pos c19] at H
        have c19b0 : decide (0 ≤ x6_1) = true := decide_eq_true c19
        clear c19
        replace H := Option.bind_eq_some_iff.mp H
        obtain ⟨t270, A200, H⟩ := H
        replace H : (laws_FnFailing.l1 k1 t252 t253 t258 x6_1 t270 0) = some r := H
        have A20 := Aside0.mk A200
        clear A200
        have H' := Aside0.mk H
        clear H
        have p269 : 0 ≤ (x6_1 : Int) := of_decide_eq_true zbc10
        have q269 : x6_1 < (t252.length : Int) := of_decide_eq_true zbc10
        obtain ⟨ad269, A269_1, c269_1, A269_2, c269_2, e269, hx269_0, hx269_1, hx269_2, hx269_3, hx269_4, hl269_1, hi269_1, hl269_2, hi269_2⟩ := at_T55 (Kd.S_reads' HO_3.out).2.2 x6_1 p269 q269
        cases e269
        obtain ⟨ce269, hce269, hMe269, hcc269⟩ := Kd.S_get HO_3.out z55 x6_1 p269 (by first | exact q269 | exact of_decide_eq_true (by first | (with_reducible assumption) | assumption) | (have e_ := (Kd.S_reads' HO_3.out).1; omega))
        obtain ⟨ve269_1, ve269_2, rfl, ge269_1, ge269_2⟩ := k55_openM hMe269
        have hv269_1 := hcc269 1 _ rfl
        rw [add_field _ _ 1 (by omega)] at hv269_1
        replace hv269_1 := Option.some.inj (hv269_1.symm.trans hx269_1)
        rw [hv269_1] at ge269_1
        have HL269_1 := Aside0.mk (show Kd.R Kd.string 9 _ _ _ _ ((rd_T55 t252 x6_1).f1) from ge269_1)
        clear hv269_1 ge269_1
        have hv269_2 := hcc269 2 _ rfl
        rw [add_field _ _ 2 (by omega)] at hv269_2
        replace hv269_2 := Option.some.inj (hv269_2.symm.trans hx269_2)
        rw [hv269_2] at ge269_2
        have HL269_2 := Aside0.mk (show Kd.R Kd.string 9 _ _ _ _ ((rd_T55 t252 x6_1).f2) from ge269_2)
        clear hv269_2 ge269_2
        clear hcc269 hce269
        have HR269_1 := Aside0.mk hi269_1
        have HC269_1 := Aside0.mk hl269_1
        clear hi269_1 hl269_1
        have HR269_2 := Aside0.mk hi269_2
        have HC269_2 := Aside0.mk hl269_2
        clear hi269_2 hl269_2
        replace p269 := eq_true p269
        replace q269 := eq_true q269
        go_wp2_with (first | ((with_reducible refine gate_callee (f := 40) rfl ?_); refine goesL_ (some 50) rfl rfl Try.func40 (by kernel_rfl) rfl #[.slice Ao12 t253.length co12, .string ((rd_T55 t252 x6_1).f0)] rfl zbc0 ?_; (with_reducible refine (laws_has.calls k1 _ _ t253 ((rd_T55 t252 x6_1).f0) t270 _ ?side1 ?side2 A20.out).mono ?_); (case side1 => exact zbc5 HO_4.out); (case side2 => exact (Kd.R_reads' HO_4.out).2.1); rintro e w' ⟨rfl, ⟨nd, rfl⟩⟩; refine ⟨_, rfl, ?_⟩))
        go_loopg [7, 8] k1 (fun kq v7 v8 w' => ∃ (x7_2 : Bool) (x8_2 : Int), v7 = .bool x7_2 ∧ v8 = .int .i64 x8_2 ∧ Aside0 (laws_FnFailing.l1 kq t252 t253 t258 x6_1 x7_2 x8_2 = some r) ∧ Aside0 (kq ≤ k1) ∧ Aside0 (Kd.S k55 55 w' w.heap.size (fun k_ => some k_ ≠ ((.slice Ao12 t253.length co12) : Value).ownBlock ∧ some k_ ≠ ((.slice Ao15 t258.length co15) : Value).ownBlock) (.slice (some ad269) t252.length co11) t252) ∧ Aside0 (Kd.R Kd.string 9 w' w.heap.size (fun k_ => some k_ ≠ ((.slice Ao15 t258.length co15) : Value).ownBlock) (.slice Ao12 t253.length co12) t253) ∧ Aside0 (Kd.R Kd.string 9 w' w.heap.size (fun k_ => some k_ ≠ ((.slice Ao12 t253.length co12) : Value).ownBlock) (.slice Ao15 t258.length co15) t258) ∧ Aside0 (Kd.C Kd.string w' A269_1 ((rd_T55 t252 x6_1).f1).length ((rd_T55 t252 x6_1).f1)) ∧ Aside0 (Kd.C Kd.string w' A269_2 ((rd_T55 t252 x6_1).f2).length ((rd_T55 t252 x6_1).f2)) ∧ Aside0 (Below w.heap.size w w'))
        case atStart => exact ⟨(t270), (0), zbc8, zbc8, H', ⟨Nat.le_refl _⟩, ⟨zbc6 HO_3.out⟩, ⟨zbc7 HO_4.out⟩, ⟨zbc7 HO_5.out⟩, ⟨zbc11 HR269_1.out⟩, ⟨zbc11 HR269_2.out⟩, ⟨zbc3⟩⟩
        case round =>
         clear H'
         try clear c1
         try clear c2
         try clear p2
         try clear q2
         try clear hx2
         try clear c3
         try clear c4
         try clear c7
         try clear c9
         try clear c9b0
         try clear c9b1
         try clear c9b2
         try clear c13
         try clear c18
         try clear c18b0
         try clear c19
         try clear c19b0
         try clear hx269_0
         try clear hx269_1
         try clear hx269_2
         try clear hx269_3
         try clear hx269_4
         try clear p2
         try clear p269
         try clear q269
         obtain ⟨x7_2, x8_2, rfl, rfl, HA, HK2, HO_3, HO_4, HO_5, HR269_1, HR269_2, HB⟩ := hrel
         cases gk with
         | zero => exact absurd HA.out (by simp [laws_FnFailing.l1])
         | succ k2 =>
          have H := HA.out
          clear HA
          simp only [laws_FnFailing.l1] at H
          by_cases c21 : 0 ≤ x6_1
          ·rw [if_pos c21] at H
           have c21b0 : decide (0 ≤ x6_1) = true := decide_eq_true c21
           clear c21
           by_cases c22 : x6_1 < (t252.length : Int)
           ·rw [if_pos c22] at H
            have c22b0 : decide (x6_1 < (t252.length : Int)) = true := decide_eq_true c22
            clear c22
            by_cases c23 : x8_2 < (((rd_T55 t252 x6_1).f2).length : Int)
            ·rw [if_pos c23] at H
             have c23b0 : decide (x8_2 < (((rd_T55 t252 x6_1).f2).length : Int)) = true := decide_eq_true c23
             clear c23
             by_cases c24 : x7_2 = true
             ·subst c24
              have H1 : (laws_FnFailing.l1 k2 t252 t253 t258 x6_1 true (wrap64 (x8_2 + 1))) = some r := by rw [if_pos rfl] at H; exact H
              clear H
              have H := H1
              clear H1
              have H' := Aside0.mk H
              clear H
              have p271 : 0 ≤ (x6_1 : Int) := of_decide_eq_true zbc10
              have q271 : x6_1 < (t252.length : Int) := of_decide_eq_true zbc10
              obtain ⟨ad271, A271_1, c271_1, A271_2, c271_2, e271, hx271_0, hx271_1, hx271_2, hx271_3, hx271_4, hl271_1, hi271_1, hl271_2, hi271_2⟩ := at_T55 (Kd.S_reads' HO_3.out).2.2 x6_1 p271 q271
              obtain rfl : ad269 = ad271 := (by injection e271)
              obtain ⟨ce271, hce271, hMe271, hcc271⟩ := Kd.S_get HO_3.out z55 x6_1 p271 zbc12
              obtain ⟨ve271_1, ve271_2, rfl, ge271_1, ge271_2⟩ := k55_openM hMe271
              have hv271_1 := hcc271 1 _ rfl
              rw [add_field _ _ 1 (by omega)] at hv271_1
              replace hv271_1 := Option.some.inj (hv271_1.symm.trans hx271_1)
              rw [hv271_1] at ge271_1
              have HL271_1 := Aside0.mk (show Kd.R Kd.string 9 _ _ _ _ ((rd_T55 t252 x6_1).f1) from ge271_1)
              clear hv271_1 ge271_1
              have hv271_2 := hcc271 2 _ rfl
              rw [add_field _ _ 2 (by omega)] at hv271_2
              replace hv271_2 := Option.some.inj (hv271_2.symm.trans hx271_2)
              rw [hv271_2] at ge271_2
              have HL271_2 := Aside0.mk (show Kd.R Kd.string 9 _ _ _ _ ((rd_T55 t252 x6_1).f2) from ge271_2)
              clear hv271_2 ge271_2
              clear hcc271 hce271
              have HR271_1 := Aside0.mk hi271_1
              have HC271_1 := Aside0.mk hl271_1
              clear hi271_1 hl271_1
              have HR271_2 := Aside0.mk hi271_2
              have HC271_2 := Aside0.mk hl271_2
              clear hi271_2 hl271_2
              replace p271 := eq_true p271
              replace q271 := eq_true q271
              go_wp2
              go_roundg k2
              case measure => have := HK1.out; have := HK2.out; omega
              case rel => exact ⟨(true), (wrap64 (x8_2 + 1)), zbc8, zbc8, H', ⟨by have := HK1.out; have := HK2.out; omega⟩, ⟨zbc6 HO_3.out⟩, ⟨zbc7 HO_4.out⟩, ⟨zbc7 HO_5.out⟩, ⟨zbc11 HR269_1.out⟩, ⟨zbc11 HR269_2.out⟩, ⟨zbc3⟩⟩
             ·replace c24 := Bool.eq_false_iff.mpr c24
              subst c24
              have H1 : (if 0 ≤ x8_2 then ((laws_unit.f k2 t252 (rdOf ByteArray.empty ((rd_T55 t252 x6_1).f2) x8_2)).bind fun t274 => (if t274 < 0 then (laws_FnFailing.l1 k2 t252 t253 t258 x6_1 true (wrap64 (x8_2 + 1))) else ((laws_has.f k2 t258 (rdOf ByteArray.empty ((rd_T55 t252 x6_1).f2) x8_2)).bind fun t277 => (laws_FnFailing.l1 k2 t252 t253 t258 x6_1 t277 (wrap64 (x8_2 + 1)))))) else (none)) = some r := by rw [if_neg (show ¬ (false = true) by decide)] at H; exact H
              clear H
              have H := H1
              clear H1
              by_cases c25 : 0 ≤ x8_2
              ·rw [if_pos c25] at H
               have c25b0 : decide (0 ≤ x8_2) = true := decide_eq_true c25
               clear c25
               replace H := Option.bind_eq_some_iff.mp H
               obtain ⟨t274, A260, H⟩ := H
               replace H : (if t274 < 0 then (laws_FnFailing.l1 k2 t252 t253 t258 x6_1 true (wrap64 (x8_2 + 1))) else ((laws_has.f k2 t258 (rdOf ByteArray.empty ((rd_T55 t252 x6_1).f2) x8_2)).bind fun t277 => (laws_FnFailing.l1 k2 t252 t253 t258 x6_1 t277 (wrap64 (x8_2 + 1))))) = some r := H
               have A26 := Aside0.mk A260
               clear A260
               by_cases c27 : t274 < 0
               ·rw [if_pos c27] at H
                have c27b0 : decide (t274 < 0) = true := decide_eq_true c27
                clear c27
                have H' := Aside0.mk H
                clear H
                have p271 : 0 ≤ (x6_1 : Int) := of_decide_eq_true zbc10
                have q271 : x6_1 < (t252.length : Int) := of_decide_eq_true zbc10
                obtain ⟨ad271, A271_1, c271_1, A271_2, c271_2, e271, hx271_0, hx271_1, hx271_2, hx271_3, hx271_4, hl271_1, hi271_1, hl271_2, hi271_2⟩ := at_T55 (Kd.S_reads' HO_3.out).2.2 x6_1 p271 q271
                obtain rfl : ad269 = ad271 := (by injection e271)
                obtain ⟨ce271, hce271, hMe271, hcc271⟩ := Kd.S_get HO_3.out z55 x6_1 p271 zbc12
                obtain ⟨ve271_1, ve271_2, rfl, ge271_1, ge271_2⟩ := k55_openM hMe271
                have hv271_1 := hcc271 1 _ rfl
                rw [add_field _ _ 1 (by omega)] at hv271_1
                replace hv271_1 := Option.some.inj (hv271_1.symm.trans hx271_1)
                rw [hv271_1] at ge271_1
                have HL271_1 := Aside0.mk (show Kd.R Kd.string 9 _ _ _ _ ((rd_T55 t252 x6_1).f1) from ge271_1)
                clear hv271_1 ge271_1
                have hv271_2 := hcc271 2 _ rfl
                rw [add_field _ _ 2 (by omega)] at hv271_2
                replace hv271_2 := Option.some.inj (hv271_2.symm.trans hx271_2)
                rw [hv271_2] at ge271_2
                have HL271_2 := Aside0.mk (show Kd.R Kd.string 9 _ _ _ _ ((rd_T55 t252 x6_1).f2) from ge271_2)
                clear hv271_2 ge271_2
                clear hcc271 hce271
                have HR271_1 := Aside0.mk hi271_1
                have HC271_1 := Aside0.mk hl271_1
                clear hi271_1 hl271_1
                have HR271_2 := Aside0.mk hi271_2
                have HC271_2 := Aside0.mk hl271_2
                clear hi271_2 hl271_2
                replace p271 := eq_true p271
                replace q271 := eq_true q271
                have p272 : 0 ≤ (x6_1 : Int) := of_decide_eq_true zbc10
                have q272 : x6_1 < (t252.length : Int) := of_decide_eq_true zbc10
                obtain ⟨ad272, A272_1, c272_1, A272_2, c272_2, e272, hx272_0, hx272_1, hx272_2, hx272_3, hx272_4, hl272_1, hi272_1, hl272_2, hi272_2⟩ := at_T55 (Kd.S_reads' HO_3.out).2.2 x6_1 p272 q272
                obtain rfl : ad269 = ad272 := (by injection e272)
                obtain ⟨ce272, hce272, hMe272, hcc272⟩ := Kd.S_get HO_3.out z55 x6_1 p272 zbc13
                obtain ⟨ve272_1, ve272_2, rfl, ge272_1, ge272_2⟩ := k55_openM hMe272
                have hv272_1 := hcc272 1 _ rfl
                rw [add_field _ _ 1 (by omega)] at hv272_1
                replace hv272_1 := Option.some.inj (hv272_1.symm.trans hx272_1)
                rw [hv272_1] at ge272_1
                have HL272_1 := Aside0.mk (show Kd.R Kd.string 9 _ _ _ _ ((rd_T55 t252 x6_1).f1) from ge272_1)
                clear hv272_1 ge272_1
                have hv272_2 := hcc272 2 _ rfl
                rw [add_field _ _ 2 (by omega)] at hv272_2
                replace hv272_2 := Option.some.inj (hv272_2.symm.trans hx272_2)
                rw [hv272_2] at ge272_2
                have HL272_2 := Aside0.mk (show Kd.R Kd.string 9 _ _ _ _ ((rd_T55 t252 x6_1).f2) from ge272_2)
                clear hv272_2 ge272_2
                clear hcc272 hce272
                have HR272_1 := Aside0.mk hi272_1
                have HC272_1 := Aside0.mk hl272_1
                clear hi272_1 hl272_1
                have HR272_2 := Aside0.mk hi272_2
                have HC272_2 := Aside0.mk hl272_2
                clear hi272_2 hl272_2
                replace p272 := eq_true p272
                replace q272 := eq_true q272
                have ea_ := Option.some.inj (hx271_1.symm.trans hx272_1)
                injection ea_ with ea_ en_ ec_
                subst ea_
                subst ec_
                clear en_
                try (have eb_ := Option.some.inj (hx271_1.symm.trans ((HB.out.cell (World.block_lt_of_cell? w _ hw269_1)).trans hw269_1)); injection eb_ with ea_ en_ ec_; subst ea_; subst ec_; clear en_)
                have ea_ := Option.some.inj (hx271_2.symm.trans hx272_2)
                injection ea_ with ea_ en_ ec_
                subst ea_
                subst ec_
                clear en_
                try (have eb_ := Option.some.inj (hx271_2.symm.trans ((HB.out.cell (World.block_lt_of_cell? w _ hw269_2)).trans hw269_2)); injection eb_ with ea_ en_ ec_; subst ea_; subst ec_; clear en_)
                have p273 : 0 ≤ (x8_2 : Int) := of_decide_eq_true zbc10
                have q273 : x8_2 < (((rd_T55 t252 x6_1).f2).length : Int) := of_decide_eq_true zbc10
                obtain ⟨ad273, e273, hx273_0⟩ := Kd.at_string (zbc11 HR272_2.out) x8_2 p273 q273
                cases e273
                replace p273 := eq_true p273
                replace q273 := eq_true q273
                go_wp2_with (first | (go_at_call 41; (with_reducible refine (laws_unit.calls k2 _ _ t252 (rdOf ByteArray.empty ((rd_T55 t252 x6_1).f2) x8_2) t274 _ ?side1 ?side2 A26.out).mono ?_); (case side1 => exact zbc4 HO_3.out); (case side2 => exact (Kd.S_reads' HO_3.out).2.1); rintro e w' ⟨rfl, ⟨nd, rfl⟩⟩))
                go_roundg k2
                case measure => have := HK1.out; have := HK2.out; omega
                case rel => exact ⟨(true), (wrap64 (x8_2 + 1)), zbc8, zbc8, H', ⟨by have := HK1.out; have := HK2.out; omega⟩, ⟨zbc6 HO_3.out⟩, ⟨zbc7 HO_4.out⟩, ⟨zbc7 HO_5.out⟩, ⟨zbc11 HR269_1.out⟩, ⟨zbc11 HR269_2.out⟩, ⟨zbc3⟩⟩
               ·rw [if_neg c27] at H
                have c27b0 : decide (t274 < 0) = false := decide_eq_false c27
                clear c27
                replace H := Option.bind_eq_some_iff.mp H
                obtain ⟨t277, A280, H⟩ := H
                replace H : (laws_FnFailing.l1 k2 t252 t253 t258 x6_1 t277 (wrap64 (x8_2 + 1))) = some r := H
                have A28 := Aside0.mk A280
                clear A280
                have H' := Aside0.mk H
                clear H
                have p271 : 0 ≤ (x6_1 : Int) := of_decide_eq_true zbc10
                have q271 : x6_1 < (t252.length : Int) := of_decide_eq_true zbc10
                obtain ⟨ad271, A271_1, c271_1, A271_2, c271_2, e271, hx271_0, hx271_1, hx271_2, hx271_3, hx271_4, hl271_1, hi271_1, hl271_2, hi271_2⟩ := at_T55 (Kd.S_reads' HO_3.out).2.2 x6_1 p271 q271
                obtain rfl : ad269 = ad271 := (by injection e271)
                obtain ⟨ce271, hce271, hMe271, hcc271⟩ := Kd.S_get HO_3.out z55 x6_1 p271 zbc12
                obtain ⟨ve271_1, ve271_2, rfl, ge271_1, ge271_2⟩ := k55_openM hMe271
                have hv271_1 := hcc271 1 _ rfl
                rw [add_field _ _ 1 (by omega)] at hv271_1
                replace hv271_1 := Option.some.inj (hv271_1.symm.trans hx271_1)
                rw [hv271_1] at ge271_1
                have HL271_1 := Aside0.mk (show Kd.R Kd.string 9 _ _ _ _ ((rd_T55 t252 x6_1).f1) from ge271_1)
                clear hv271_1 ge271_1
                have hv271_2 := hcc271 2 _ rfl
                rw [add_field _ _ 2 (by omega)] at hv271_2
                replace hv271_2 := Option.some.inj (hv271_2.symm.trans hx271_2)
                rw [hv271_2] at ge271_2
                have HL271_2 := Aside0.mk (show Kd.R Kd.string 9 _ _ _ _ ((rd_T55 t252 x6_1).f2) from ge271_2)
                clear hv271_2 ge271_2
                clear hcc271 hce271
                have HR271_1 := Aside0.mk hi271_1
                have HC271_1 := Aside0.mk hl271_1
                clear hi271_1 hl271_1
                have HR271_2 := Aside0.mk hi271_2
                have HC271_2 := Aside0.mk hl271_2
                clear hi271_2 hl271_2
                replace p271 := eq_true p271
                replace q271 := eq_true q271
                have p272 : 0 ≤ (x6_1 : Int) := of_decide_eq_true zbc10
                have q272 : x6_1 < (t252.length : Int) := of_decide_eq_true zbc10
                obtain ⟨ad272, A272_1, c272_1, A272_2, c272_2, e272, hx272_0, hx272_1, hx272_2, hx272_3, hx272_4, hl272_1, hi272_1, hl272_2, hi272_2⟩ := at_T55 (Kd.S_reads' HO_3.out).2.2 x6_1 p272 q272
                obtain rfl : ad269 = ad272 := (by injection e272)
                obtain ⟨ce272, hce272, hMe272, hcc272⟩ := Kd.S_get HO_3.out z55 x6_1 p272 zbc13
                obtain ⟨ve272_1, ve272_2, rfl, ge272_1, ge272_2⟩ := k55_openM hMe272
                have hv272_1 := hcc272 1 _ rfl
                rw [add_field _ _ 1 (by omega)] at hv272_1
                replace hv272_1 := Option.some.inj (hv272_1.symm.trans hx272_1)
                rw [hv272_1] at ge272_1
                have HL272_1 := Aside0.mk (show Kd.R Kd.string 9 _ _ _ _ ((rd_T55 t252 x6_1).f1) from ge272_1)
                clear hv272_1 ge272_1
                have hv272_2 := hcc272 2 _ rfl
                rw [add_field _ _ 2 (by omega)] at hv272_2
                replace hv272_2 := Option.some.inj (hv272_2.symm.trans hx272_2)
                rw [hv272_2] at ge272_2
                have HL272_2 := Aside0.mk (show Kd.R Kd.string 9 _ _ _ _ ((rd_T55 t252 x6_1).f2) from ge272_2)
                clear hv272_2 ge272_2
                clear hcc272 hce272
                have HR272_1 := Aside0.mk hi272_1
                have HC272_1 := Aside0.mk hl272_1
                clear hi272_1 hl272_1
                have HR272_2 := Aside0.mk hi272_2
                have HC272_2 := Aside0.mk hl272_2
                clear hi272_2 hl272_2
                replace p272 := eq_true p272
                replace q272 := eq_true q272
                have ea_ := Option.some.inj (hx271_1.symm.trans hx272_1)
                injection ea_ with ea_ en_ ec_
                subst ea_
                subst ec_
                clear en_
                try (have eb_ := Option.some.inj (hx271_1.symm.trans ((HB.out.cell (World.block_lt_of_cell? w _ hw269_1)).trans hw269_1)); injection eb_ with ea_ en_ ec_; subst ea_; subst ec_; clear en_)
                have ea_ := Option.some.inj (hx271_2.symm.trans hx272_2)
                injection ea_ with ea_ en_ ec_
                subst ea_
                subst ec_
                clear en_
                try (have eb_ := Option.some.inj (hx271_2.symm.trans ((HB.out.cell (World.block_lt_of_cell? w _ hw269_2)).trans hw269_2)); injection eb_ with ea_ en_ ec_; subst ea_; subst ec_; clear en_)
                have p273 : 0 ≤ (x8_2 : Int) := of_decide_eq_true zbc10
                have q273 : x8_2 < (((rd_T55 t252 x6_1).f2).length : Int) := of_decide_eq_true zbc10
                obtain ⟨ad273, e273, hx273_0⟩ := Kd.at_string (zbc11 HR272_2.out) x8_2 p273 q273
                cases e273
                replace p273 := eq_true p273
                replace q273 := eq_true q273
                go_wp2_with (first | (go_at_call 41; (with_reducible refine (laws_unit.calls k2 _ _ t252 (rdOf ByteArray.empty ((rd_T55 t252 x6_1).f2) x8_2) t274 _ ?side1 ?side2 A26.out).mono ?_); (case side1 => exact zbc4 HO_3.out); (case side2 => exact (Kd.S_reads' HO_3.out).2.1); rintro e w' ⟨rfl, ⟨nd, rfl⟩⟩; have p275 : 0 ≤ (x6_1 : Int) := of_decide_eq_true zbc10; have q275 : x6_1 < (t252.length : Int) := of_decide_eq_true zbc10; obtain ⟨ad275, A275_1, c275_1, A275_2, c275_2, e275, hx275_0, hx275_1, hx275_2, hx275_3, hx275_4, hl275_1, hi275_1, hl275_2, hi275_2⟩ := at_T55 (Kd.S_reads' HO_3.out).2.2 x6_1 p275 q275; obtain rfl : ad269 = ad275 := (by injection e275); obtain ⟨ce275, hce275, hMe275, hcc275⟩ := Kd.S_get HO_3.out z55 x6_1 p275 (by first | exact q275 | exact of_decide_eq_true (by first | (with_reducible assumption) | assumption) | (have e_ := (Kd.S_reads' HO_3.out).1; omega)); obtain ⟨ve275_1, ve275_2, rfl, ge275_1, ge275_2⟩ := k55_openM hMe275; have hv275_1 := hcc275 1 _ rfl; rw [add_field _ _ 1 (by omega)] at hv275_1; replace hv275_1 := Option.some.inj (hv275_1.symm.trans hx275_1); rw [hv275_1] at ge275_1; have HL275_1 := Aside0.mk (show Kd.R Kd.string 9 _ _ _ _ ((rd_T55 t252 x6_1).f1) from ge275_1); clear hv275_1 ge275_1; have hv275_2 := hcc275 2 _ rfl; rw [add_field _ _ 2 (by omega)] at hv275_2; replace hv275_2 := Option.some.inj (hv275_2.symm.trans hx275_2); rw [hv275_2] at ge275_2; have HL275_2 := Aside0.mk (show Kd.R Kd.string 9 _ _ _ _ ((rd_T55 t252 x6_1).f2) from ge275_2); clear hv275_2 ge275_2; clear hcc275 hce275; have HR275_1 := Aside0.mk hi275_1; have HC275_1 := Aside0.mk hl275_1; clear hi275_1 hl275_1; have HR275_2 := Aside0.mk hi275_2; have HC275_2 := Aside0.mk hl275_2; clear hi275_2 hl275_2; replace p275 := eq_true p275; replace q275 := eq_true q275; have ea_ := Option.some.inj (hx271_1.symm.trans hx275_1); injection ea_ with ea_ en_ ec_; subst ea_; subst ec_; clear en_; have ea_ := Option.some.inj (hx271_2.symm.trans hx275_2); injection ea_ with ea_ en_ ec_; subst ea_; subst ec_; clear en_; have p276 : 0 ≤ (x8_2 : Int) := of_decide_eq_true zbc10; have q276 : x8_2 < (((rd_T55 t252 x6_1).f2).length : Int) := of_decide_eq_true zbc10; obtain ⟨ad276, e276, hx276_0⟩ := Kd.at_string (zbc11 HR275_2.out) x8_2 p276 q276; cases e276; replace p276 := eq_true p276; replace q276 := eq_true q276) | (go_at_call 40; (with_reducible refine (laws_has.calls k2 _ _ t258 (rdOf ByteArray.empty ((rd_T55 t252 x6_1).f2) x8_2) t277 _ ?side1 ?side2 A28.out).mono ?_); (case side1 => exact zbc5 HO_5.out); (case side2 => exact (Kd.R_reads' HO_5.out).2.1); rintro e w' ⟨rfl, ⟨nd, rfl⟩⟩))
                go_roundg k2
                case measure => have := HK1.out; have := HK2.out; omega
                case rel => exact ⟨(t277), (wrap64 (x8_2 + 1)), zbc8, zbc8, H', ⟨by have := HK1.out; have := HK2.out; omega⟩, ⟨zbc6 HO_3.out⟩, ⟨zbc7 HO_4.out⟩, ⟨zbc7 HO_5.out⟩, ⟨zbc11 HR269_1.out⟩, ⟨zbc11 HR269_2.out⟩, ⟨zbc3⟩⟩
              ·rw [if_neg c25] at H
               exact absurd H (by simp)
            ·rw [if_neg c23] at H
             have c23b0 : decide (x8_2 < (((rd_T55 t252 x6_1).f2).length : Int)) = false := decide_eq_false c23
             clear c23
             replace H := Option.bind_eq_some_iff.mp H
             obtain ⟨t279, A290, H⟩ := H
             replace H : (if (x7_2 != t279) = true then (some false) else (laws_FnFailing.l0 k2 t252 t253 t258 (wrap64 (x6_1 + 1)))) = some r := H
             have A29 := Aside0.mk A290
             clear A290
             by_cases c30 : (x7_2 != t279) = true
             ·rw [if_pos c30] at H
              have c30b0 : (x7_2 != t279) = true := c30
              (try (have c30b1 : decide (x7_2 = t279) = false := by simpa using c30))
              (try (have c30b2 : (x7_2 == t279) = false := by simpa using c30))
              (try (have c30b3 : ¬ (x7_2 = t279) := by simpa using c30))
              clear c30
              obtain rfl := Option.some.inj H
              have p271 : 0 ≤ (x6_1 : Int) := of_decide_eq_true zbc10
              have q271 : x6_1 < (t252.length : Int) := of_decide_eq_true zbc10
              obtain ⟨ad271, A271_1, c271_1, A271_2, c271_2, e271, hx271_0, hx271_1, hx271_2, hx271_3, hx271_4, hl271_1, hi271_1, hl271_2, hi271_2⟩ := at_T55 (Kd.S_reads' HO_3.out).2.2 x6_1 p271 q271
              obtain rfl : ad269 = ad271 := (by injection e271)
              obtain ⟨ce271, hce271, hMe271, hcc271⟩ := Kd.S_get HO_3.out z55 x6_1 p271 zbc12
              obtain ⟨ve271_1, ve271_2, rfl, ge271_1, ge271_2⟩ := k55_openM hMe271
              have hv271_1 := hcc271 1 _ rfl
              rw [add_field _ _ 1 (by omega)] at hv271_1
              replace hv271_1 := Option.some.inj (hv271_1.symm.trans hx271_1)
              rw [hv271_1] at ge271_1
              have HL271_1 := Aside0.mk (show Kd.R Kd.string 9 _ _ _ _ ((rd_T55 t252 x6_1).f1) from ge271_1)
              clear hv271_1 ge271_1
              have hv271_2 := hcc271 2 _ rfl
              rw [add_field _ _ 2 (by omega)] at hv271_2
              replace hv271_2 := Option.some.inj (hv271_2.symm.trans hx271_2)
              rw [hv271_2] at ge271_2
              have HL271_2 := Aside0.mk (show Kd.R Kd.string 9 _ _ _ _ ((rd_T55 t252 x6_1).f2) from ge271_2)
              clear hv271_2 ge271_2
              clear hcc271 hce271
              have HR271_1 := Aside0.mk hi271_1
              have HC271_1 := Aside0.mk hl271_1
              clear hi271_1 hl271_1
              have HR271_2 := Aside0.mk hi271_2
              have HC271_2 := Aside0.mk hl271_2
              clear hi271_2 hl271_2
              replace p271 := eq_true p271
              replace q271 := eq_true q271
              have p278 : 0 ≤ (x6_1 : Int) := of_decide_eq_true zbc10
              have q278 : x6_1 < (t252.length : Int) := of_decide_eq_true zbc10
              obtain ⟨ad278, A278_1, c278_1, A278_2, c278_2, e278, hx278_0, hx278_1, hx278_2, hx278_3, hx278_4, hl278_1, hi278_1, hl278_2, hi278_2⟩ := at_T55 (Kd.S_reads' HO_3.out).2.2 x6_1 p278 q278
              obtain rfl : ad269 = ad278 := (by injection e278)
              obtain ⟨ce278, hce278, hMe278, hcc278⟩ := Kd.S_get HO_3.out z55 x6_1 p278 zbc14
              obtain ⟨ve278_1, ve278_2, rfl, ge278_1, ge278_2⟩ := k55_openM hMe278
              have hv278_1 := hcc278 1 _ rfl
              rw [add_field _ _ 1 (by omega)] at hv278_1
              replace hv278_1 := Option.some.inj (hv278_1.symm.trans hx278_1)
              rw [hv278_1] at ge278_1
              have HL278_1 := Aside0.mk (show Kd.R Kd.string 9 _ _ _ _ ((rd_T55 t252 x6_1).f1) from ge278_1)
              clear hv278_1 ge278_1
              have hv278_2 := hcc278 2 _ rfl
              rw [add_field _ _ 2 (by omega)] at hv278_2
              replace hv278_2 := Option.some.inj (hv278_2.symm.trans hx278_2)
              rw [hv278_2] at ge278_2
              have HL278_2 := Aside0.mk (show Kd.R Kd.string 9 _ _ _ _ ((rd_T55 t252 x6_1).f2) from ge278_2)
              clear hv278_2 ge278_2
              clear hcc278 hce278
              have HR278_1 := Aside0.mk hi278_1
              have HC278_1 := Aside0.mk hl278_1
              clear hi278_1 hl278_1
              have HR278_2 := Aside0.mk hi278_2
              have HC278_2 := Aside0.mk hl278_2
              clear hi278_2 hl278_2
              replace p278 := eq_true p278
              replace q278 := eq_true q278
              have ea_ := Option.some.inj (hx271_1.symm.trans hx278_1)
              injection ea_ with ea_ en_ ec_
              subst ea_
              subst ec_
              clear en_
              try (have eb_ := Option.some.inj (hx271_1.symm.trans ((HB.out.cell (World.block_lt_of_cell? w _ hw269_1)).trans hw269_1)); injection eb_ with ea_ en_ ec_; subst ea_; subst ec_; clear en_)
              have ea_ := Option.some.inj (hx271_2.symm.trans hx278_2)
              injection ea_ with ea_ en_ ec_
              subst ea_
              subst ec_
              clear en_
              try (have eb_ := Option.some.inj (hx271_2.symm.trans ((HB.out.cell (World.block_lt_of_cell? w _ hw269_2)).trans hw269_2)); injection eb_ with ea_ en_ ec_; subst ea_; subst ec_; clear en_)
              go_wp2_with (first | ((with_reducible refine gate_callee (f := 40) rfl ?_); refine goesL_ (some 94) rfl rfl Try.func40 (by kernel_rfl) rfl #[.slice Ao15 t258.length co15, .string ((rd_T55 t252 x6_1).f0)] rfl zbc0 ?_; (with_reducible refine (laws_has.calls k2 _ _ t258 ((rd_T55 t252 x6_1).f0) t279 _ ?side1 ?side2 A29.out).mono ?_); (case side1 => exact zbc5 HO_5.out); (case side2 => exact (Kd.R_reads' HO_5.out).2.1); rintro e w' ⟨rfl, ⟨nd, rfl⟩⟩; refine ⟨_, rfl, ?_⟩))
              go_ret
              exact ⟨zbc2, zbc3⟩
             ·rw [if_neg c30] at H
              have c30b0 : (x7_2 != t279) = false := by simpa using c30
              (try (have c30b1 : decide (x7_2 = t279) = true := by simpa using c30))
              (try (have c30b2 : (x7_2 == t279) = true := by simpa using c30))
              clear c30
              have H' := Aside0.mk H
              clear H
              have p271 : 0 ≤ (x6_1 : Int) := of_decide_eq_true zbc10
              have q271 : x6_1 < (t252.length : Int) := of_decide_eq_true zbc10
              obtain ⟨ad271, A271_1, c271_1, A271_2, c271_2, e271, hx271_0, hx271_1, hx271_2, hx271_3, hx271_4, hl271_1, hi271_1, hl271_2, hi271_2⟩ := at_T55 (Kd.S_reads' HO_3.out).2.2 x6_1 p271 q271
              obtain rfl : ad269 = ad271 := (by injection e271)
              obtain ⟨ce271, hce271, hMe271, hcc271⟩ := Kd.S_get HO_3.out z55 x6_1 p271 zbc12
              obtain ⟨ve271_1, ve271_2, rfl, ge271_1, ge271_2⟩ := k55_openM hMe271
              have hv271_1 := hcc271 1 _ rfl
              rw [add_field _ _ 1 (by omega)] at hv271_1
              replace hv271_1 := Option.some.inj (hv271_1.symm.trans hx271_1)
              rw [hv271_1] at ge271_1
              have HL271_1 := Aside0.mk (show Kd.R Kd.string 9 _ _ _ _ ((rd_T55 t252 x6_1).f1) from ge271_1)
              clear hv271_1 ge271_1
              have hv271_2 := hcc271 2 _ rfl
              rw [add_field _ _ 2 (by omega)] at hv271_2
              replace hv271_2 := Option.some.inj (hv271_2.symm.trans hx271_2)
              rw [hv271_2] at ge271_2
              have HL271_2 := Aside0.mk (show Kd.R Kd.string 9 _ _ _ _ ((rd_T55 t252 x6_1).f2) from ge271_2)
              clear hv271_2 ge271_2
              clear hcc271 hce271
              have HR271_1 := Aside0.mk hi271_1
              have HC271_1 := Aside0.mk hl271_1
              clear hi271_1 hl271_1
              have HR271_2 := Aside0.mk hi271_2
              have HC271_2 := Aside0.mk hl271_2
              clear hi271_2 hl271_2
              replace p271 := eq_true p271
              replace q271 := eq_true q271
              have p278 : 0 ≤ (x6_1 : Int) := of_decide_eq_true zbc10
              have q278 : x6_1 < (t252.length : Int) := of_decide_eq_true zbc10
              obtain ⟨ad278, A278_1, c278_1, A278_2, c278_2, e278, hx278_0, hx278_1, hx278_2, hx278_3, hx278_4, hl278_1, hi278_1, hl278_2, hi278_2⟩ := at_T55 (Kd.S_reads' HO_3.out).2.2 x6_1 p278 q278
              obtain rfl : ad269 = ad278 := (by injection e278)
              obtain ⟨ce278, hce278, hMe278, hcc278⟩ := Kd.S_get HO_3.out z55 x6_1 p278 zbc14
              obtain ⟨ve278_1, ve278_2, rfl, ge278_1, ge278_2⟩ := k55_openM hMe278
              have hv278_1 := hcc278 1 _ rfl
              rw [add_field _ _ 1 (by omega)] at hv278_1
              replace hv278_1 := Option.some.inj (hv278_1.symm.trans hx278_1)
              rw [hv278_1] at ge278_1
              have HL278_1 := Aside0.mk (show Kd.R Kd.string 9 _ _ _ _ ((rd_T55 t252 x6_1).f1) from ge278_1)
              clear hv278_1 ge278_1
              have hv278_2 := hcc278 2 _ rfl
              rw [add_field _ _ 2 (by omega)] at hv278_2
              replace hv278_2 := Option.some.inj (hv278_2.symm.trans hx278_2)
              rw [hv278_2] at ge278_2
              have HL278_2 := Aside0.mk (show Kd.R Kd.string 9 _ _ _ _ ((rd_T55 t252 x6_1).f2) from ge278_2)
              clear hv278_2 ge278_2
              clear hcc278 hce278
              have HR278_1 := Aside0.mk hi278_1
              have HC278_1 := Aside0.mk hl278_1
              clear hi278_1 hl278_1
              have HR278_2 := Aside0.mk hi278_2
              have HC278_2 := Aside0.mk hl278_2
              clear hi278_2 hl278_2
              replace p278 := eq_true p278
              replace q278 := eq_true q278
              have ea_ := Option.some.inj (hx271_1.symm.trans hx278_1)
              injection ea_ with ea_ en_ ec_
              subst ea_
              subst ec_
              clear en_
              try (have eb_ := Option.some.inj (hx271_1.symm.trans ((HB.out.cell (World.block_lt_of_cell? w _ hw269_1)).trans hw269_1)); injection eb_ with ea_ en_ ec_; subst ea_; subst ec_; clear en_)
              have ea_ := Option.some.inj (hx271_2.symm.trans hx278_2)
              injection ea_ with ea_ en_ ec_
              subst ea_
              subst ec_
              clear en_
              try (have eb_ := Option.some.inj (hx271_2.symm.trans ((HB.out.cell (World.block_lt_of_cell? w _ hw269_2)).trans hw269_2)); injection eb_ with ea_ en_ ec_; subst ea_; subst ec_; clear en_)
              go_wp2_with (first | ((with_reducible refine gate_callee (f := 40) rfl ?_); refine goesL_ (some 94) rfl rfl Try.func40 (by kernel_rfl) rfl #[.slice Ao15 t258.length co15, .string ((rd_T55 t252 x6_1).f0)] rfl zbc0 ?_; (with_reducible refine (laws_has.calls k2 _ _ t258 ((rd_T55 t252 x6_1).f0) t279 _ ?side1 ?side2 A29.out).mono ?_); (case side1 => exact zbc5 HO_5.out); (case side2 => exact (Kd.R_reads' HO_5.out).2.1); rintro e w' ⟨rfl, ⟨nd, rfl⟩⟩; refine ⟨_, rfl, ?_⟩))
              go_roundg k2
              case measure => have := HK1.out; have := HK2.out; omega
              case rel => exact ⟨(wrap64 (x6_1 + 1)), zbc8, H', ⟨by have := HK1.out; have := HK2.out; omega⟩, ⟨zbc6 HO_3.out⟩, ⟨zbc7 HO_4.out⟩, ⟨zbc7 HO_5.out⟩, ⟨zbc3⟩⟩
           ·rw [if_neg c22] at H
            exact absurd H (by simp)
          ·rw [if_neg c21] at H
           exact absurd H (by simp)
       ·rw [if_neg c19] at H
        exact absurd H (by simp)
      ·rw [if_neg c18] at H
       have c18b0 : decide (x6_1 < (t252.length : Int)) = false := decide_eq_false c18
       clear c18
       obtain ⟨ji31, hji31⟩ : ∃ j_ : Int, (wrap64 ((t253.length : Int) / 2)) = j_ := ⟨_, rfl⟩
       replace H : (if 0 ≤ (ji31) then (if (ji31) ≤ (t253.length : Int) then ((impl_Failing.f k1 t252 (t253.take ((ji31) : Int).toNat)).bind fun t284 => (laws_FnFailing.l2 k1 t258 t284 0)) else (none)) else (none)) = some r := by first | (rw [hji31] at H; exact H) | (simp only [hji31] at H ⊢; exact H)
       have hji31w : (IntKind.i64.wrap ((t253.length : Int) / 2)) = ji31 := (i64_w _).trans hji31
       by_cases c32 : 0 ≤ (ji31)
       ·rw [if_pos c32] at H
        have c32b0 := eq_true c32
        have c32b1 : decide (0 ≤ (ji31)) = true := decide_eq_true c32
        clear c32
        by_cases c33 : (ji31) ≤ (t253.length : Int)
        ·rw [if_pos c33] at H
         have c33b0 := eq_true c33
         have c33b1 : decide ((ji31) ≤ (t253.length : Int)) = true := decide_eq_true c33
         clear c33
         obtain ⟨y280, hy280⟩ : ∃ y_ : List ByteArray, y_ = (t253.take ((ji31) : Int).toNat) := ⟨_, rfl⟩
         replace H : ((impl_Failing.f k1 t252 y280).bind fun t284 => (laws_FnFailing.l2 k1 t258 t284 0)) = some r := by first | (rw [hy280]; with_reducible exact H) | (have H2_ := (Option.bind_some _ _).symm.trans H; rw [hy280]; with_reducible exact H2_) | (have H2_ := (Option.bind_some _ _).symm.trans H; with_reducible exact H2_) | with_reducible exact H | (rw [hy280]; exact H) | exact H
         have Ny280 := Aside0.mk hy280
         clear hy280
         replace H := Option.bind_eq_some_iff.mp H
         obtain ⟨t284, A340, H⟩ := H
         replace H : (laws_FnFailing.l2 k1 t258 t284 0) = some r := H
         have A34 := Aside0.mk A340
         clear A340
         have H' := Aside0.mk H
         clear H
         have q35 : ((ji31) : Int) ≤ ((t253.length : Int) : Int) := of_decide_eq_true zbc10
         obtain ⟨i035, hi035, _, hsz35, _⟩ := info_parts info9
         have hroom35 : t253.length ≤ co12 := (Kd.R_reads' HO_4.out).2.1
         have hC35 : Kd.C Kd.string _ Ao12 t253.length t253 := (Kd.R_reads' HO_4.out).2.2
         have hcut35 := cut_to (P := Try.prog) 29 9 .i64 Try.underlying29 hi035 Ao12 t253.length co12 (ji31) (of_decide_eq_true zbc10) q35 hroom35
         have hr35 := Kd.C_take (m := ((ji31) : Int).toNat) hC35 (by omega)
         have hy35 : y280.length = ((ji31) : Int).toNat := (by rw [Ny280.out, List.length_take]; omega)
         rw [← Ny280.out] at hr35
         rw [← hy35] at hcut35
         have HR283 := Aside0.mk hr35
         have HC283 := Aside0.mk (show y280.length ≤ co12 from by omega)
         clear hr35 hC35 hroom35 hi035 hsz35
         have KY35 := Aside0.mk hy35
         clear hy35
         have KL35 := Aside0.mk (show ((ji31) : Int).toNat ≤ t253.length from by omega)
         replace q35 := eq_true q35
         go_wp2_with (first | ((with_reducible refine gate_callee (f := 29) rfl ?_); refine goesL_ (some 102) rfl rfl Try.func29 (by kernel_rfl) rfl #[.slice Ao11 t252.length co11, .slice Ao12 y280.length co12] rfl zbc0 ?_; (with_reducible refine (impl_Failing.calls k1 _ _ t252 _ _ y280 t284 _ ?side1 ?side2 ?side3 ?side4 A34.out).mono ?_); (case side1 => exact zbc4 HO_3.out); (case side2 => exact (Kd.S_reads' HO_3.out).2.1); (case side3 => repeat (first | exact (by repeat (first | (with_reducible exact HR283.out) | (with_reducible refine Kd.C_alloc ?_ _) | (with_reducible refine Kd.C_drewN ?_ _) | (with_reducible refine Kd.C_drew ?_) | exact HR283.out)) | (with_reducible refine Kd.C_alloc ?_ _) | (with_reducible refine Kd.C_drewN ?_ _) | (with_reducible refine Kd.C_drew ?_))); (case side4 => exact HC283.out); rintro e w36 ⟨v285, rfl, ho0, hb⟩; refine ⟨_, rfl, ?_⟩; replace HO_3 := Aside0.mk (Kd.S_elder' (zbc6 HO_3.out) (Kd.R_base ho0) hb); have HO286 := Aside0.mk (Kd.R_lower (Kd.R_new' (Kd.R_new' ho0 (Kd.R_lt (zbc7 HO_4.out))) (Kd.R_lt (zbc7 HO_5.out))) (below_size qB)); replace HO_4 := Aside0.mk (Kd.R_elder' (zbc7 HO_4.out) (Kd.R_base ho0) hb); replace HO_5 := Aside0.mk (Kd.R_elder' (zbc7 HO_5.out) (Kd.R_base ho0) hb); replace HR283 := Aside0.mk (Kd.C_below (zbc11 HR283.out) hb); replace HB := Aside0.mk (below_step qB hb); (try clear hb); (try clear hb2); (try clear hk); (try clear hi); (try clear ho0)))
         go_loopg [10] k1 (fun kq v10 w' => ∃ (x10_2 : Int), v10 = .int .i64 x10_2 ∧ Aside0 (laws_FnFailing.l2 kq t258 t284 x10_2 = some r) ∧ Aside0 (kq ≤ k1) ∧ Aside0 (Kd.R Kd.string 9 w' w.heap.size (fun k_ => some k_ ≠ (v285 : Value).ownBlock) (.slice Ao15 t258.length co15) t258) ∧ Aside0 (Kd.R Kd.string 9 w' w.heap.size (fun k_ => some k_ ≠ ((.slice Ao15 t258.length co15) : Value).ownBlock) v285 t284) ∧ Aside0 (Kd.C Kd.string w' Ao12 y280.length y280) ∧ Aside0 (Below w.heap.size w w'))
         case atStart => exact ⟨(0), zbc8, H', ⟨Nat.le_refl _⟩, ⟨zbc15 HO_5.out⟩, ⟨zbc15 HO286.out⟩, ⟨zbc11 HR283.out⟩, ⟨zbc3⟩⟩
         case round =>
          clear H'
          try clear c1
          try clear c2
          try clear p2
          try clear q2
          try clear hx2
          try clear c3
          try clear q3
          try clear c4
          try clear p6
          try clear c7
          try clear c9
          try clear c9b0
          try clear c9b1
          try clear c9b2
          try clear c13
          try clear c18
          try clear c18b0
          try clear c19
          try clear c19b0
          try clear c21
          try clear c21b0
          try clear c22
          try clear c22b0
          try clear c23
          try clear c23b0
          try clear c24
          try clear c25
          try clear c25b0
          try clear c26
          try clear p26
          try clear q26
          try clear hx26
          try clear c27
          try clear c27b0
          try clear p27
          try clear q27
          try clear hx27
          try clear c28
          try clear c29
          try clear c30
          try clear c30b0
          try clear c30b1
          try clear c30b2
          try clear c32
          try clear c32b0
          try clear c32b1
          try clear c33
          try clear c33b0
          try clear c33b1
          try clear q35
          try clear hx269_0
          try clear hx269_1
          try clear hx269_2
          try clear hx269_3
          try clear hx269_4
          try clear hx271_0
          try clear hx271_1
          try clear hx271_2
          try clear hx271_3
          try clear hx271_4
          try clear hx272_0
          try clear hx272_1
          try clear hx272_2
          try clear hx272_3
          try clear hx272_4
          try clear hx273_0
          try clear hx275_0
          try clear hx275_1
          try clear hx275_2
          try clear hx275_3
          try clear hx275_4
          try clear hx276_0
          try clear hx278_0
          try clear hx278_1
          try clear hx278_2
          try clear hx278_3
          try clear hx278_4
          try clear p2
          try clear p269
          try clear p271
          try clear p272
          try clear p273
          try clear p275
          try clear p276
          try clear p278
          try clear q2
          try clear q269
          try clear q271
          try clear q272
          try clear q273
          try clear q275
          try clear q276
          try clear q278
          try clear q35
          obtain ⟨x10_2, rfl, HA, HK2, HO_5, HO_9, HR283, HB⟩ := hrel
          cases gk with
          | zero => exact absurd HA.out (by simp [laws_FnFailing.l2])
          | succ k2 =>
           have H := HA.out
           clear HA
           simp only [laws_FnFailing.l2] at H
           by_cases c37 : x10_2 < (t284.length : Int)
           ·rw [if_pos c37] at H
            have c37b0 : decide (x10_2 < (t284.length : Int)) = true := decide_eq_true c37
            clear c37
            by_cases c38 : 0 ≤ x10_2
            ·rw [if_pos c38] at H
             have c38b0 : decide (0 ≤ x10_2) = true := decide_eq_true c38
             clear c38
             replace H := Option.bind_eq_some_iff.mp H
             obtain ⟨t288, A390, H⟩ := H
             replace H : (if t288 = true then (laws_FnFailing.l2 k2 t258 t284 (wrap64 (x10_2 + 1))) else (some false)) = some r := H
             have A39 := Aside0.mk A390
             clear A390
             by_cases c40 : t288 = true
             ·subst c40
              have H1 : (laws_FnFailing.l2 k2 t258 t284 (wrap64 (x10_2 + 1))) = some r := by rw [if_pos rfl] at H; exact H
              clear H
              have H := H1
              clear H1
              have H' := Aside0.mk H
              clear H
              obtain ⟨Ao41, co41, eo41⟩ := Kd.R_slice HO_9.out
              subst eo41
              have p287 : 0 ≤ (x10_2 : Int) := of_decide_eq_true zbc10
              have q287 : x10_2 < (t284.length : Int) := of_decide_eq_true zbc10
              obtain ⟨ad287, e287, hx287_0⟩ := Kd.at_string (Kd.R_reads' HO_9.out).2.2 x10_2 p287 q287
              cases e287
              replace p287 := eq_true p287
              replace q287 := eq_true q287
              go_wp2_with (first | ((with_reducible refine gate_callee (f := 40) rfl ?_); refine goesL_ (some 114) rfl rfl Try.func40 (by kernel_rfl) rfl #[.slice Ao15 t258.length co15, .string (rdOf ByteArray.empty t284 x10_2)] rfl zbc0 ?_; (with_reducible refine (laws_has.calls k2 _ _ t258 (rdOf ByteArray.empty t284 x10_2) true _ ?side1 ?side2 A39.out).mono ?_); (case side1 => exact zbc5 HO_5.out); (case side2 => exact (Kd.R_reads' HO_5.out).2.1); rintro e w' ⟨rfl, ⟨nd, rfl⟩⟩; refine ⟨_, rfl, ?_⟩))
              go_roundg k2
              case measure => have := HK1.out; have := HK2.out; omega
              case rel => exact ⟨(wrap64 (x10_2 + 1)), zbc8, H', ⟨by have := HK1.out; have := HK2.out; omega⟩, ⟨zbc7 HO_5.out⟩, ⟨zbc7 HO_9.out⟩, ⟨zbc11 HR283.out⟩, ⟨zbc3⟩⟩
             ·replace c40 := Bool.eq_false_iff.mpr c40
              subst c40
              have H1 : (some false) = some r := by rw [if_neg (show ¬ (false = true) by decide)] at H; exact H
              clear H
              have H := H1
              clear H1
              obtain rfl := Option.some.inj H
              obtain ⟨Ao42, co42, eo42⟩ := Kd.R_slice HO_9.out
              subst eo42
              have p287 : 0 ≤ (x10_2 : Int) := of_decide_eq_true zbc10
              have q287 : x10_2 < (t284.length : Int) := of_decide_eq_true zbc10
              obtain ⟨ad287, e287, hx287_0⟩ := Kd.at_string (Kd.R_reads' HO_9.out).2.2 x10_2 p287 q287
              cases e287
              replace p287 := eq_true p287
              replace q287 := eq_true q287
              go_wp2_with (first | ((with_reducible refine gate_callee (f := 40) rfl ?_); refine goesL_ (some 114) rfl rfl Try.func40 (by kernel_rfl) rfl #[.slice Ao15 t258.length co15, .string (rdOf ByteArray.empty t284 x10_2)] rfl zbc0 ?_; (with_reducible refine (laws_has.calls k2 _ _ t258 (rdOf ByteArray.empty t284 x10_2) false _ ?side1 ?side2 A39.out).mono ?_); (case side1 => exact zbc5 HO_5.out); (case side2 => exact (Kd.R_reads' HO_5.out).2.1); rintro e w' ⟨rfl, ⟨nd, rfl⟩⟩; refine ⟨_, rfl, ?_⟩))
              go_ret
              exact ⟨zbc16, zbc3⟩
            ·rw [if_neg c38] at H
             exact absurd H (by simp)
           ·rw [if_neg c37] at H
            have c37b0 : decide (x10_2 < (t284.length : Int)) = false := decide_eq_false c37
            clear c37
            obtain ⟨y289, hy289⟩ : ∃ y_ : List (S55), y_ = (([] : List (S55))) := ⟨_, rfl⟩
            replace H : ((impl_UnitsOk.f k2 y289).bind fun t292 => (some t292)) = some r := by first | (rw [hy289]; with_reducible exact H) | (have H2_ := (Option.bind_some _ _).symm.trans H; rw [hy289]; with_reducible exact H2_) | (have H2_ := (Option.bind_some _ _).symm.trans H; with_reducible exact H2_) | with_reducible exact H | (rw [hy289]; exact H) | exact H
            have Ny289 := Aside0.mk hy289
            clear hy289
            replace H := Option.bind_eq_some_iff.mp H
            obtain ⟨t292, A430, H⟩ := H
            replace H : (some t292) = some r := H
            have A43 := Aside0.mk A430
            clear A430
            obtain rfl := Option.some.inj H
            obtain ⟨Ao44, co44, eo44⟩ := Kd.R_slice HO_9.out
            subst eo44
            go_wp2_with (first | ((with_reducible refine gate_dst (N := 116) rfl ?_); (try (refine gate_guard (by rfl) ?_; dsimp only)); refine Kd.S_lit k55 _ 55 ?hg (N := 116) ?hd (xs := ([] : List (S55))) (inner := []) (ok := fun _ => True) (okp := fun _ => True) ?hr ?hp (fun _ hk => hk) trivial (Below.refl _ _) (Nat.le_refl _) (by simp) ?_; (case hd => rfl); (case hg => rfl); (case hr => first | (go_simp; done) | (go_simp; rfl)); (case hp => exact (Reps.none _ _)); intro v290 w45 ho46 hb hg_ hnew_; clear hg_ hnew_; (first | rw [← Ny289.out] at ho46 | (simp only [Int.reduceToNat] at ho46; rw [← Ny289.out] at ho46)); have HO291 := Aside0.mk (Kd.S_lower (Kd.S_new' (Kd.S_new' ho46 (Kd.R_lt (zbc7 HO_5.out))) (Kd.R_lt (zbc7 HO_9.out))) (below_size qB)); replace HO_5 := Aside0.mk (Kd.R_below (zbc7 HO_5.out) hb); replace HO_9 := Aside0.mk (Kd.R_below (zbc7 HO_9.out) hb); replace HR283 := Aside0.mk (Kd.C_below (zbc11 HR283.out) hb); replace HB := Aside0.mk (below_step qB hb); clear hb ho46; obtain ⟨Ao47, co47, eo47⟩ := Kd.S_slice HO291.out; subst eo47) | ((with_reducible refine gate_callee (f := 15) rfl ?_); refine goesL_ (some 117) rfl rfl Try.func15 (by kernel_rfl) rfl #[.slice Ao47 y289.length co47] rfl zbc0 ?_; (with_reducible refine (impl_UnitsOk.calls k2 _ _ y289 t292 _ ?side1 ?side2 A43.out).mono ?_); (case side1 => exact zbc4 HO291.out); (case side2 => exact (Kd.S_reads' HO291.out).2.1); rintro e w48 ⟨rfl, hb⟩; refine ⟨_, rfl, ?_⟩; replace HO_5 := Aside0.mk (Kd.R_below (zbc7 HO_5.out) hb); replace HO_9 := Aside0.mk (Kd.R_below (zbc7 HO_9.out) hb); replace HO291 := Aside0.mk (Kd.S_below (zbc6 HO291.out) hb); replace HR283 := Aside0.mk (Kd.C_below (zbc11 HR283.out) hb); replace HB := Aside0.mk (below_step qB hb); (try clear hb); (try clear hb2); (try clear hk); (try clear hi)))
            go_ret
            exact ⟨zbc16, zbc3⟩
        ·rw [if_neg c33] at H
         exact absurd H (by simp)
       ·rw [if_neg c32] at H
        exact absurd H (by simp)
   ·rw [if_neg c9] at H
    have c9b0 : ((t258.length : Int) == (t266.length : Int)) = false := beq_eq_false_iff_ne.mpr c9
    have c9b1 : ((t258.length : Int) != (t266.length : Int)) = true := bne_iff_ne.mpr c9
    have c9b2 : (t258.length == t266.length) = false := by first | simpa using c9 | (simp at c9 ⊢; omega)
    obtain rfl := Option.some.inj H
    go_enter Try.func9, Try.ntmps9
    go_wp2_with (first | ((with_reducible refine gate_callee (f := 38) rfl ?_); refine goesL_ (some 12) rfl rfl Try.func38 (by kernel_rfl) rfl #[.slice A0 l0.length c0] rfl zbc0 ?_; (with_reducible refine (laws_big.calls _ _ l0 false _ ?side1 ?side2 A2.out).mono ?_); (case side1 => exact zbc1); (case side2 => exact HC0.out); rintro e w' ⟨rfl, ⟨nd, rfl⟩⟩; refine ⟨_, rfl, ?_⟩) | ((with_reducible refine gate_callee (f := 39) rfl ?_); refine goesL_ (some 15) rfl rfl Try.func39 (by kernel_rfl) rfl #[.slice A0 l0.length c0] rfl zbc0 ?_; (with_reducible refine (spec_DrawFailing.calls k _ _ l0 t252 t253 _ ?side1 ?side2 A4.out).mono ?_); (case side1 => exact zbc1); (case side2 => exact HC0.out); rintro e w49 ⟨v254, v256, rfl, ho0, ho1, hb⟩; refine ⟨_, rfl, ?_⟩; have HO255 := Aside0.mk (Kd.S_lower ho0 (below_size qB)); have HO257 := Aside0.mk (Kd.R_lower ho1 (below_size qB)); replace HB := Aside0.mk (below_step qB hb); (try clear hb); (try clear hb2); (try clear hk); (try clear hi); (try clear ho0); (try clear ho1); obtain ⟨Ao50, co50, eo50⟩ := Kd.S_slice HO255.out; subst eo50; obtain ⟨Ao51, co51, eo51⟩ := Kd.R_slice HO257.out; subst eo51) | ((with_reducible refine gate_callee (f := 29) rfl ?_); refine goesL_ (some 20) rfl rfl Try.func29 (by kernel_rfl) rfl #[.slice Ao50 t252.length co50, .slice Ao51 t253.length co51] rfl zbc0 ?_; (with_reducible refine (impl_Failing.calls k _ _ t252 _ _ t253 t258 _ ?side1 ?side2 ?side3 ?side4 A5.out).mono ?_); (case side1 => exact zbc4 HO255.out); (case side2 => exact (Kd.S_reads' HO255.out).2.1); (case side3 => exact zbc5 HO257.out); (case side4 => exact (Kd.R_reads' HO257.out).2.1); rintro e w52 ⟨v259, rfl, ho0, hb⟩; refine ⟨_, rfl, ?_⟩; replace HO255 := Aside0.mk (Kd.S_elder' (zbc6 HO255.out) (Kd.R_base ho0) hb); have HO260 := Aside0.mk (Kd.R_lower (Kd.R_new' ho0 (Kd.R_lt (zbc7 HO257.out))) (below_size qB)); replace HO257 := Aside0.mk (Kd.R_elder' (zbc7 HO257.out) (Kd.R_base ho0) hb); replace HB := Aside0.mk (below_step qB hb); (try clear hb); (try clear hb2); (try clear hk); (try clear hi); (try clear ho0)) | ((with_reducible refine gate_callee (f := 13) rfl ?_); refine goesL_ (some 22) rfl rfl Try.func13 (by kernel_rfl) rfl #[.slice Ao50 t252.length co50] rfl zbc0 ?_; (with_reducible refine (spec_UnitsOk.calls k _ _ t252 true _ ?side1 ?side2 A6.out).mono ?_); (case side1 => exact zbc4 HO255.out); (case side2 => exact (Kd.S_reads' HO255.out).2.1); rintro e w53 ⟨rfl, hb⟩; refine ⟨_, rfl, ?_⟩; replace HO255 := Aside0.mk (Kd.S_below (zbc6 HO255.out) hb); replace HO257 := Aside0.mk (Kd.R_below (zbc7 HO257.out) hb); replace HO260 := Aside0.mk (Kd.R_below (zbc7 HO260.out) hb); replace HB := Aside0.mk (below_step qB hb); (try clear hb); (try clear hb2); (try clear hk); (try clear hi); obtain ⟨Ao54, co54, eo54⟩ := Kd.R_slice HO260.out; subst eo54) | ((with_reducible refine gate_callee (f := 28) rfl ?_); refine goesL_ (some 35) rfl rfl Try.func28 (by kernel_rfl) rfl #[.slice Ao50 t252.length co50, .slice Ao51 t253.length co51] rfl zbc0 ?_; (with_reducible refine (spec_Failing.calls k _ _ t252 _ _ t253 t266 _ ?side1 ?side2 ?side3 ?side4 A8.out).mono ?_); (case side1 => exact zbc4 HO255.out); (case side2 => exact (Kd.S_reads' HO255.out).2.1); (case side3 => exact zbc5 HO257.out); (case side4 => exact (Kd.R_reads' HO257.out).2.1); rintro e w55 ⟨v267, rfl, ho0, hb⟩; refine ⟨_, rfl, ?_⟩; replace HO255 := Aside0.mk (Kd.S_elder' (zbc6 HO255.out) (Kd.R_base ho0) hb); have HO268 := Aside0.mk (Kd.R_lower (Kd.R_new' (Kd.R_new' ho0 (Kd.R_lt (zbc7 HO257.out))) (Kd.R_lt (zbc7 HO260.out))) (below_size qB)); replace HO257 := Aside0.mk (Kd.R_elder' (zbc7 HO257.out) (Kd.R_base ho0) hb); replace HO260 := Aside0.mk (Kd.R_elder' (zbc7 HO260.out) (Kd.R_base ho0) hb); replace HB := Aside0.mk (below_step qB hb); (try clear hb); (try clear hb2); (try clear hk); (try clear hi); (try clear ho0); obtain ⟨Ao56, co56, eo56⟩ := Kd.R_slice HO268.out; subst eo56))
    go_ret
    exact ⟨zbc2, zbc3⟩
  ·replace c7 := Bool.eq_false_iff.mpr c7
   subst c7
   have H1 : (if (t258.length : Int) = 0 then ((impl_UnitsOk.f k (([] : List (S55)))).bind fun t265 => (some t265)) else (some false)) = some r := by rw [if_neg (show ¬ (false = true) by decide)] at H; exact H
   clear H
   have H := H1
   clear H1
   by_cases c57 : (t258.length : Int) = 0
   ·rw [if_pos c57] at H
    have c57b0 : ((t258.length : Int) == 0) = true := beq_iff_eq.mpr c57
    have c57b1 : ((t258.length : Int) != 0) = false := bne_eq_false_iff_eq.mpr c57
    clear c57
    obtain ⟨y262, hy262⟩ : ∃ y_ : List (S55), y_ = (([] : List (S55))) := ⟨_, rfl⟩
    replace H : ((impl_UnitsOk.f k y262).bind fun t265 => (some t265)) = some r := by first | (rw [hy262]; with_reducible exact H) | (have H2_ := (Option.bind_some _ _).symm.trans H; rw [hy262]; with_reducible exact H2_) | (have H2_ := (Option.bind_some _ _).symm.trans H; with_reducible exact H2_) | with_reducible exact H | (rw [hy262]; exact H) | exact H
    have Ny262 := Aside0.mk hy262
    clear hy262
    replace H := Option.bind_eq_some_iff.mp H
    obtain ⟨t265, A580, H⟩ := H
    replace H : (some t265) = some r := H
    have A58 := Aside0.mk A580
    clear A580
    obtain rfl := Option.some.inj H
    go_enter Try.func9, Try.ntmps9
    go_wp2_with (first | ((with_reducible refine gate_callee (f := 38) rfl ?_); refine goesL_ (some 12) rfl rfl Try.func38 (by kernel_rfl) rfl #[.slice A0 l0.length c0] rfl zbc0 ?_; (with_reducible refine (laws_big.calls _ _ l0 false _ ?side1 ?side2 A2.out).mono ?_); (case side1 => exact zbc1); (case side2 => exact HC0.out); rintro e w' ⟨rfl, ⟨nd, rfl⟩⟩; refine ⟨_, rfl, ?_⟩) | ((with_reducible refine gate_callee (f := 39) rfl ?_); refine goesL_ (some 15) rfl rfl Try.func39 (by kernel_rfl) rfl #[.slice A0 l0.length c0] rfl zbc0 ?_; (with_reducible refine (spec_DrawFailing.calls k _ _ l0 t252 t253 _ ?side1 ?side2 A4.out).mono ?_); (case side1 => exact zbc1); (case side2 => exact HC0.out); rintro e w59 ⟨v254, v256, rfl, ho0, ho1, hb⟩; refine ⟨_, rfl, ?_⟩; have HO255 := Aside0.mk (Kd.S_lower ho0 (below_size qB)); have HO257 := Aside0.mk (Kd.R_lower ho1 (below_size qB)); replace HB := Aside0.mk (below_step qB hb); (try clear hb); (try clear hb2); (try clear hk); (try clear hi); (try clear ho0); (try clear ho1); obtain ⟨Ao60, co60, eo60⟩ := Kd.S_slice HO255.out; subst eo60; obtain ⟨Ao61, co61, eo61⟩ := Kd.R_slice HO257.out; subst eo61) | ((with_reducible refine gate_callee (f := 29) rfl ?_); refine goesL_ (some 20) rfl rfl Try.func29 (by kernel_rfl) rfl #[.slice Ao60 t252.length co60, .slice Ao61 t253.length co61] rfl zbc0 ?_; (with_reducible refine (impl_Failing.calls k _ _ t252 _ _ t253 t258 _ ?side1 ?side2 ?side3 ?side4 A5.out).mono ?_); (case side1 => exact zbc4 HO255.out); (case side2 => exact (Kd.S_reads' HO255.out).2.1); (case side3 => exact zbc5 HO257.out); (case side4 => exact (Kd.R_reads' HO257.out).2.1); rintro e w62 ⟨v259, rfl, ho0, hb⟩; refine ⟨_, rfl, ?_⟩; replace HO255 := Aside0.mk (Kd.S_elder' (zbc6 HO255.out) (Kd.R_base ho0) hb); have HO260 := Aside0.mk (Kd.R_lower (Kd.R_new' ho0 (Kd.R_lt (zbc7 HO257.out))) (below_size qB)); replace HO257 := Aside0.mk (Kd.R_elder' (zbc7 HO257.out) (Kd.R_base ho0) hb); replace HB := Aside0.mk (below_step qB hb); (try clear hb); (try clear hb2); (try clear hk); (try clear hi); (try clear ho0)) | ((with_reducible refine gate_callee (f := 13) rfl ?_); refine goesL_ (some 22) rfl rfl Try.func13 (by kernel_rfl) rfl #[.slice Ao60 t252.length co60] rfl zbc0 ?_; (with_reducible refine (spec_UnitsOk.calls k _ _ t252 false _ ?side1 ?side2 A6.out).mono ?_); (case side1 => exact zbc4 HO255.out); (case side2 => exact (Kd.S_reads' HO255.out).2.1); rintro e w63 ⟨rfl, hb⟩; refine ⟨_, rfl, ?_⟩; replace HO255 := Aside0.mk (Kd.S_below (zbc6 HO255.out) hb); replace HO257 := Aside0.mk (Kd.R_below (zbc7 HO257.out) hb); replace HO260 := Aside0.mk (Kd.R_below (zbc7 HO260.out) hb); replace HB := Aside0.mk (below_step qB hb); (try clear hb); (try clear hb2); (try clear hk); (try clear hi); obtain ⟨Ao64, co64, eo64⟩ := Kd.R_slice HO260.out; subst eo64) | ((with_reducible refine gate_dst (N := 28) rfl ?_); (try (refine gate_guard (by rfl) ?_; dsimp only)); refine Kd.S_lit k55 _ 55 ?hg (N := 28) ?hd (xs := ([] : List (S55))) (inner := []) (ok := fun _ => True) (okp := fun _ => True) ?hr ?hp (fun _ hk => hk) trivial (Below.refl _ _) (Nat.le_refl _) (by simp) ?_; (case hd => rfl); (case hg => rfl); (case hr => first | (go_simp; done) | (go_simp; rfl)); (case hp => exact (Reps.none _ _)); intro v263 w65 ho66 hb hg_ hnew_; clear hg_ hnew_; (first | rw [← Ny262.out] at ho66 | (simp only [Int.reduceToNat] at ho66; rw [← Ny262.out] at ho66)); have HO264 := Aside0.mk (Kd.S_lower (Kd.S_new' (Kd.S_new' (Kd.S_new' ho66 (Kd.S_lt (zbc6 HO255.out))) (Kd.R_lt (zbc7 HO257.out))) (Kd.R_lt (zbc7 HO260.out))) (below_size qB)); replace HO255 := Aside0.mk (Kd.S_elder' (zbc6 HO255.out) (Kd.S_base ho66) hb); replace HO257 := Aside0.mk (Kd.R_below (zbc7 HO257.out) hb); replace HO260 := Aside0.mk (Kd.R_below (zbc7 HO260.out) hb); replace HB := Aside0.mk (below_step qB hb); clear hb ho66; obtain ⟨Ao67, co67, eo67⟩ := Kd.S_slice HO264.out; subst eo67) | (go_at_call 15; (with_reducible refine (impl_UnitsOk.calls k _ _ y262 t265 _ ?side1 ?side2 A58.out).mono ?_); (case side1 => exact zbc4 HO264.out); (case side2 => exact (Kd.S_reads' HO264.out).2.1); rintro e w68 ⟨rfl, hb⟩; replace HO255 := Aside0.mk (Kd.S_below (zbc6 HO255.out) hb); replace HO257 := Aside0.mk (Kd.R_below (zbc7 HO257.out) hb); replace HO260 := Aside0.mk (Kd.R_below (zbc7 HO260.out) hb); replace HO264 := Aside0.mk (Kd.S_below (zbc6 HO264.out) hb); replace HB := Aside0.mk (below_step qB hb); (try clear hb); (try clear hb2); (try clear hk); (try clear hi)))
    go_ret
    exact ⟨zbc2, zbc3⟩
   ·rw [if_neg c57] at H
    have c57b0 : ((t258.length : Int) == 0) = false := beq_eq_false_iff_ne.mpr c57
    have c57b1 : ((t258.length : Int) != 0) = true := bne_iff_ne.mpr c57
    have c57b2 : ¬ (t258 = []) := fun h_ => c57 (by rw [h_]; rfl)
    obtain rfl := Option.some.inj H
    go_enter Try.func9, Try.ntmps9
    go_wp2_with (first | ((with_reducible refine gate_callee (f := 38) rfl ?_); refine goesL_ (some 12) rfl rfl Try.func38 (by kernel_rfl) rfl #[.slice A0 l0.length c0] rfl zbc0 ?_; (with_reducible refine (laws_big.calls _ _ l0 false _ ?side1 ?side2 A2.out).mono ?_); (case side1 => exact zbc1); (case side2 => exact HC0.out); rintro e w' ⟨rfl, ⟨nd, rfl⟩⟩; refine ⟨_, rfl, ?_⟩) | ((with_reducible refine gate_callee (f := 39) rfl ?_); refine goesL_ (some 15) rfl rfl Try.func39 (by kernel_rfl) rfl #[.slice A0 l0.length c0] rfl zbc0 ?_; (with_reducible refine (spec_DrawFailing.calls k _ _ l0 t252 t253 _ ?side1 ?side2 A4.out).mono ?_); (case side1 => exact zbc1); (case side2 => exact HC0.out); rintro e w69 ⟨v254, v256, rfl, ho0, ho1, hb⟩; refine ⟨_, rfl, ?_⟩; have HO255 := Aside0.mk (Kd.S_lower ho0 (below_size qB)); have HO257 := Aside0.mk (Kd.R_lower ho1 (below_size qB)); replace HB := Aside0.mk (below_step qB hb); (try clear hb); (try clear hb2); (try clear hk); (try clear hi); (try clear ho0); (try clear ho1); obtain ⟨Ao70, co70, eo70⟩ := Kd.S_slice HO255.out; subst eo70; obtain ⟨Ao71, co71, eo71⟩ := Kd.R_slice HO257.out; subst eo71) | ((with_reducible refine gate_callee (f := 29) rfl ?_); refine goesL_ (some 20) rfl rfl Try.func29 (by kernel_rfl) rfl #[.slice Ao70 t252.length co70, .slice Ao71 t253.length co71] rfl zbc0 ?_; (with_reducible refine (impl_Failing.calls k _ _ t252 _ _ t253 t258 _ ?side1 ?side2 ?side3 ?side4 A5.out).mono ?_); (case side1 => exact zbc4 HO255.out); (case side2 => exact (Kd.S_reads' HO255.out).2.1); (case side3 => exact zbc5 HO257.out); (case side4 => exact (Kd.R_reads' HO257.out).2.1); rintro e w72 ⟨v259, rfl, ho0, hb⟩; refine ⟨_, rfl, ?_⟩; replace HO255 := Aside0.mk (Kd.S_elder' (zbc6 HO255.out) (Kd.R_base ho0) hb); have HO260 := Aside0.mk (Kd.R_lower (Kd.R_new' ho0 (Kd.R_lt (zbc7 HO257.out))) (below_size qB)); replace HO257 := Aside0.mk (Kd.R_elder' (zbc7 HO257.out) (Kd.R_base ho0) hb); replace HB := Aside0.mk (below_step qB hb); (try clear hb); (try clear hb2); (try clear hk); (try clear hi); (try clear ho0)) | ((with_reducible refine gate_callee (f := 13) rfl ?_); refine goesL_ (some 22) rfl rfl Try.func13 (by kernel_rfl) rfl #[.slice Ao70 t252.length co70] rfl zbc0 ?_; (with_reducible refine (spec_UnitsOk.calls k _ _ t252 false _ ?side1 ?side2 A6.out).mono ?_); (case side1 => exact zbc4 HO255.out); (case side2 => exact (Kd.S_reads' HO255.out).2.1); rintro e w73 ⟨rfl, hb⟩; refine ⟨_, rfl, ?_⟩; replace HO255 := Aside0.mk (Kd.S_below (zbc6 HO255.out) hb); replace HO257 := Aside0.mk (Kd.R_below (zbc7 HO257.out) hb); replace HO260 := Aside0.mk (Kd.R_below (zbc7 HO260.out) hb); replace HB := Aside0.mk (below_step qB hb); (try clear hb); (try clear hb2); (try clear hk); (try clear hi); obtain ⟨Ao74, co74, eo74⟩ := Kd.R_slice HO260.out; subst eo74))
    go_ret
    exact ⟨zbc2, zbc3⟩

/-- THE ONE PURE STATEMENT of laws_FnFailing: yours. -/
def laws_FnFailing.Pure : Prop := ∀ (l0 : List Int), l0.length ≤ maxLen → l0.length * 1 ≤ 140737488351232 → (∀ x ∈ l0, (Lit.int .u8 x).wf = true) → ∃ k, laws_FnFailing.f k l0 = some true
theorem laws_FnFailing.walk (P : laws_FnFailing.Pure) (a0 : Option Addr) (len0 cap0 : Nat) (z0 : List Int) (w : World) (w0 : (a0 = none ∧ len0 = 0 ∧ cap0 = 0 ∧ z0 = []) ∨ ∃ x, a0 = some x ∧ len0 ≤ cap0 ∧ cap0 ≤ maxLen ∧ z0.length = cap0 ∧ (∀ i, i < z0.length → w.cell? (x.add i) = some (.int .u8 (z0.getD i 0))) ∧ ∀ n ∈ z0, (Lit.int .u8 n).wf = true) (y0 : len0 * 1 ≤ 140737488351232) :
  Calls Try.prog 9 #[.slice a0 len0 cap0] w fun e w' => e = .returned (.bool true) ∧ Below w.heap.size w w' := by
 obtain ⟨l0, rfl, hr0, hm0, hw0, hc0⟩ := ReadsInt.ofRowC w0
 obtain ⟨k, h⟩ := P l0 hm0 y0 hw0
 refine (laws_FnFailing.calls k _ _ l0 true w (Kd.C_of_reads (d := (0 : Int)) (h1 := fun _ => rfl) hr0) hc0 h).mono ?_
 rintro e w' ⟨rfl, hd⟩
 exact ⟨rfl, hd⟩

end Go.Proofs.Ytnahkojlamficaa.PFnFailing
