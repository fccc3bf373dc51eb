-- Laid by a program of this session: a turned copy of the kit's print, with contracts by hand beside.
import Derived.Test.YtnahkojlamficaaPFnExactPlanUnitsx0
import Derived.Test.YtnahkojlamficaaPFnExactPlanUnitsx1
import Derived.Test.YtnahkojlamficaaPFnExactPlanUnitsx2
import Derived.Test.YtnahkojlamficaaPFnExactPlanUnitsx3
import Derived.Test.YtnahkojlamficaaPFnExactPlanUnitsx8
import Derived.Test.YtnahkojlamficaaPFnExactPlanUnitsx13
import Derived.Test.YtnahkojlamficaaPFnExactPlanUnitsx14
namespace Go.Proofs.Ytnahkojlamficaa.PFnExactPlanUnits
open Go.RowKit Go.Proofs.YtnahkojlamficaaW.PrintWords Go.Proofs.YtnahkojlamficaaW.PrintLast Go.Proofs.YtnahkojlamficaaW.PrintMore
/-! ### laws_FnExactPlanUnits: function 8 -/
theorem pu_below_of {w w' : World} (h : Drawn0 w w') : Below w.heap.size w w' := by
  obtain ⟨n, rfl⟩ := h
  exact pw_below_drewN (Below.refl _ _) n
def laws_FnExactPlanUnits.f (k : Nat) (l0 : List (S65)) (l1 : List (S65)) (l2 : List ByteArray) : Option Bool := (laws_szUnitS.f k l0 1048576).bind fun t0 => (if t0 < 0 then some true else ((laws_szUnitS.f k l1 t0).bind fun t8 => (if t8 < 0 then some true else ((laws_szStringS.f k l2 t8).bind fun t9 => (if t9 < 0 then some true else ((laws_toUnitS.f k l0).bind fun a0 => ((laws_toUnitS.f k l1).bind fun a1 => ((laws_toStringS.f k l2).bind fun a2 => ((spec_PlanUnits.f k a0 a1 a2).bind fun w0 => ((laws_toUnitS.f k l0).bind fun x0 => ((laws_toUnitS.f k l1).bind fun x1 => ((laws_toStringS.f k l2).bind fun x2 => ((impl_PlanUnits.f k x0 x1 x2).bind fun g0 => ((laws_eqActS.f k g0 w0).bind fun t1 => (if t1 = true then ((laws_toUnitS.f k l0).bind fun b0 => ((laws_eqUnitS.f k x0 b0).bind fun t2 => (if t2 = true then ((laws_toUnitS.f k l1).bind fun b1 => ((laws_eqUnitS.f k x1 b1).bind fun t3 => (if t3 = true then ((laws_toStringS.f k l2).bind fun b2 => ((laws_eqStringS.f k x2 b2).bind fun t4 => (if t4 = true then ((laws_markUnitS.f k x0 1).bind fun k1 => ((laws_markUnitS.f k x1 k1).bind fun k2 => ((laws_markStringS.f k x2 k2).bind fun ⟨k3, _⟩ => (if k3 < 0 then none else ((laws_eqActS.f k g0 w0).bind fun s1 => (if s1 = true then ((laws_markActS.f k g0 1).bind fun ⟨m1, e0⟩ => ((laws_heldActS.f k e0 1).bind fun q1 => (if q1 < 0 then none else (if m1 = q1 then ((laws_toUnitS.f k l0).bind fun d0 => ((laws_toUnitS.f k l1).bind fun d1 => ((laws_toStringS.f k l2).bind fun d2 => ((impl_PlanUnits.f k d0 d1 d2).bind fun h0 => ((laws_eqActS.f k h0 w0).bind fun s2 => (if s2 = true then ((laws_heldActS.f k e0 1).bind fun q2 => (if m1 = q2 then (some true) else none)) else none)))))) else none)))) else none)))))) else none))) else none))) else none))) else none)))))))))))))))
set_option maxHeartbeats 8000000 in
set_option maxRecDepth 100000 in
theorem laws_FnExactPlanUnits.calls (k : Nat) (Al0 : Option Addr) (cl0 : Nat) (l0 : List (S65)) (Al1 : Option Addr) (cl1 : Nat) (l1 : List (S65)) (Al2 : Option Addr) (cl2 : Nat) (l2 : List ByteArray) (r : Bool) (w : World) (hrl0 : Kd.C k65 w Al0 l0.length l0) (hcl0 : l0.length ≤ cl0) (hrl1 : Kd.C k65 w Al1 l1.length l1) (hcl1 : l1.length ≤ cl1) (hrl2 : Kd.C Kd.string w Al2 l2.length l2) (hcl2 : l2.length ≤ cl2) (h : laws_FnExactPlanUnits.f k l0 l1 l2 = some r) :
    Calls Try.prog 8 #[.slice Al0 l0.length cl0, .slice Al1 l1.length cl1, .slice Al2 l2.length cl2] w fun e w' => e = .returned (.bool r) ∧ Below w.heap.size w w' := by
  have HR_l0 := Aside0.mk hrl0
  have HC_l0 := Aside0.mk hcl0
  clear hrl0 hcl0
  have HR_l1 := Aside0.mk hrl1
  have HC_l1 := Aside0.mk hcl1
  clear hrl1 hcl1
  have HR_l2 := Aside0.mk hrl2
  have HC_l2 := Aside0.mk hcl2
  clear hrl2 hcl2
  have HB := Aside0.mk (Below.refl w.heap.size w)
  unfold laws_FnExactPlanUnits.f at h
  replace h := Option.bind_eq_some_iff.mp h
  obtain ⟨t0, EE, h⟩ := h
  have E0 := Aside0.mk EE
  clear EE
  try dsimp only at h
  by_cases C1 : t0 < 0
  · rw [if_pos C1] at h
    have C1a : decide (t0 < 0) = true := decide_eq_true C1
    clear C1
    obtain rfl := Option.some.inj h
    clear h
    go_enter Try.func8, Try.ntmps8
    go_wp2_with (first | (go_at_call 12; (with_reducible refine (laws_szUnitS.calls (hr0 := (Kd.C_below HR_l0.out (by repeat (first | (with_reducible first | exact HB.out | apply below_alloc | apply pw_below_drewN | apply below_drew1) | exact HB.out)))) (hc0 := HC_l0.out) (h := E0.out)).mono ?_); rintro e w1 ⟨rfl, hd⟩; (first | have hb := pu_below_of hd | have hb := hd); clear hd; have Z1 := Aside0.mk (show w.heap.size ≤ w1.heap.size from hb.size); have HB' := Aside0.mk (below_step (by repeat (first | (with_reducible first | exact HB.out | apply below_alloc | apply pw_below_drewN | apply below_drew1) | exact HB.out)) hb); clear HB; have HB := HB'; clear HB'; clear E0))
    go_ret
    exact ⟨rfl, by repeat (first | (with_reducible first | exact HB.out | apply below_alloc | apply pw_below_drewN | apply below_drew1) | exact HB.out)⟩
  rw [if_neg C1] at h
  have C1a : decide (t0 < 0) = false := decide_eq_false C1
  clear C1
  replace h := Option.bind_eq_some_iff.mp h
  obtain ⟨t8, EE, h⟩ := h
  have E2 := Aside0.mk EE
  clear EE
  try dsimp only at h
  by_cases C3 : t8 < 0
  · rw [if_pos C3] at h
    have C3a : decide (t8 < 0) = true := decide_eq_true C3
    clear C3
    obtain rfl := Option.some.inj h
    clear h
    go_enter Try.func8, Try.ntmps8
    go_wp2_with (first | (go_at_call 12; (with_reducible refine (laws_szUnitS.calls (hr0 := (Kd.C_below HR_l0.out (by repeat (first | (with_reducible first | exact HB.out | apply below_alloc | apply pw_below_drewN | apply below_drew1) | exact HB.out)))) (hc0 := HC_l0.out) (h := E0.out)).mono ?_); rintro e w1 ⟨rfl, hd⟩; (first | have hb := pu_below_of hd | have hb := hd); clear hd; have Z1 := Aside0.mk (show w.heap.size ≤ w1.heap.size from hb.size); have HB' := Aside0.mk (below_step (by repeat (first | (with_reducible first | exact HB.out | apply below_alloc | apply pw_below_drewN | apply below_drew1) | exact HB.out)) hb); clear HB; have HB := HB'; clear HB'; clear E0) | (go_at_call 12; (with_reducible refine (laws_szUnitS.calls (hr0 := (Kd.C_below HR_l1.out (by repeat (first | (with_reducible first | exact HB.out | apply below_alloc | apply pw_below_drewN | apply below_drew1) | exact HB.out)))) (hc0 := HC_l1.out) (h := E2.out)).mono ?_); rintro e w2 ⟨rfl, hd⟩; (first | have hb := pu_below_of hd | have hb := hd); clear hd; have Z2 := Aside0.mk (show w1.heap.size ≤ w2.heap.size from hb.size); have HB' := Aside0.mk (below_step (by repeat (first | (with_reducible first | exact HB.out | apply below_alloc | apply pw_below_drewN | apply below_drew1) | exact HB.out)) hb); clear HB; have HB := HB'; clear HB'; clear E2))
    go_ret
    exact ⟨rfl, by repeat (first | (with_reducible first | exact HB.out | apply below_alloc | apply pw_below_drewN | apply below_drew1) | exact HB.out)⟩
  rw [if_neg C3] at h
  have C3a : decide (t8 < 0) = false := decide_eq_false C3
  clear C3
  replace h := Option.bind_eq_some_iff.mp h
  obtain ⟨t9, EE, h⟩ := h
  have E4 := Aside0.mk EE
  clear EE
  try dsimp only at h
  by_cases C5 : t9 < 0
  · rw [if_pos C5] at h
    have C5a : decide (t9 < 0) = true := decide_eq_true C5
    clear C5
    obtain rfl := Option.some.inj h
    clear h
    go_enter Try.func8, Try.ntmps8
    go_wp2_with (first | (go_at_call 12; (with_reducible refine (laws_szUnitS.calls (hr0 := (Kd.C_below HR_l0.out (by repeat (first | (with_reducible first | exact HB.out | apply below_alloc | apply pw_below_drewN | apply below_drew1) | exact HB.out)))) (hc0 := HC_l0.out) (h := E0.out)).mono ?_); rintro e w1 ⟨rfl, hd⟩; (first | have hb := pu_below_of hd | have hb := hd); clear hd; have Z1 := Aside0.mk (show w.heap.size ≤ w1.heap.size from hb.size); have HB' := Aside0.mk (below_step (by repeat (first | (with_reducible first | exact HB.out | apply below_alloc | apply pw_below_drewN | apply below_drew1) | exact HB.out)) hb); clear HB; have HB := HB'; clear HB'; clear E0) | (go_at_call 12; (with_reducible refine (laws_szUnitS.calls (hr0 := (Kd.C_below HR_l1.out (by repeat (first | (with_reducible first | exact HB.out | apply below_alloc | apply pw_below_drewN | apply below_drew1) | exact HB.out)))) (hc0 := HC_l1.out) (h := E2.out)).mono ?_); rintro e w2 ⟨rfl, hd⟩; (first | have hb := pu_below_of hd | have hb := hd); clear hd; have Z2 := Aside0.mk (show w1.heap.size ≤ w2.heap.size from hb.size); have HB' := Aside0.mk (below_step (by repeat (first | (with_reducible first | exact HB.out | apply below_alloc | apply pw_below_drewN | apply below_drew1) | exact HB.out)) hb); clear HB; have HB := HB'; clear HB'; clear E2) | (go_at_call 17; (with_reducible refine (laws_szStringS.calls (hr0 := (Kd.C_below HR_l2.out (by repeat (first | (with_reducible first | exact HB.out | apply below_alloc | apply pw_below_drewN | apply below_drew1) | exact HB.out)))) (hc0 := HC_l2.out) (h := E4.out)).mono ?_); rintro e w3 ⟨rfl, hd⟩; (first | have hb := pu_below_of hd | have hb := hd); clear hd; have Z3 := Aside0.mk (show w2.heap.size ≤ w3.heap.size from hb.size); have HB' := Aside0.mk (below_step (by repeat (first | (with_reducible first | exact HB.out | apply below_alloc | apply pw_below_drewN | apply below_drew1) | exact HB.out)) hb); clear HB; have HB := HB'; clear HB'; clear E4))
    go_ret
    exact ⟨rfl, by repeat (first | (with_reducible first | exact HB.out | apply below_alloc | apply pw_below_drewN | apply below_drew1) | exact HB.out)⟩
  rw [if_neg C5] at h
  have C5a : decide (t9 < 0) = false := decide_eq_false C5
  clear C5
  replace h := Option.bind_eq_some_iff.mp h
  obtain ⟨a0, EE, h⟩ := h
  have E6 := Aside0.mk EE
  clear EE
  try dsimp only at h
  replace h := Option.bind_eq_some_iff.mp h
  obtain ⟨a1, EE, h⟩ := h
  have E7 := Aside0.mk EE
  clear EE
  try dsimp only at h
  replace h := Option.bind_eq_some_iff.mp h
  obtain ⟨a2, EE, h⟩ := h
  have E8 := Aside0.mk EE
  clear EE
  try dsimp only at h
  replace h := Option.bind_eq_some_iff.mp h
  obtain ⟨w0, EE, h⟩ := h
  have E9 := Aside0.mk EE
  clear EE
  try dsimp only at h
  replace h := Option.bind_eq_some_iff.mp h
  obtain ⟨x0, EE, h⟩ := h
  have E10 := Aside0.mk EE
  clear EE
  try dsimp only at h
  replace h := Option.bind_eq_some_iff.mp h
  obtain ⟨x1, EE, h⟩ := h
  have E11 := Aside0.mk EE
  clear EE
  try dsimp only at h
  replace h := Option.bind_eq_some_iff.mp h
  obtain ⟨x2, EE, h⟩ := h
  have E12 := Aside0.mk EE
  clear EE
  try dsimp only at h
  replace h := Option.bind_eq_some_iff.mp h
  obtain ⟨g0, EE, h⟩ := h
  have E13 := Aside0.mk EE
  clear EE
  try dsimp only at h
  replace h := Option.bind_eq_some_iff.mp h
  obtain ⟨t1, EE, h⟩ := h
  have E14 := Aside0.mk EE
  clear EE
  try dsimp only at h
  by_cases C15 : ¬ (t1 = true)
  · rw [if_neg C15] at h; exact absurd h (by simp)
  replace C15 := Classical.not_not.mp C15
  rw [if_pos C15] at h
  subst C15
  replace h := Option.bind_eq_some_iff.mp h
  obtain ⟨b0, EE, h⟩ := h
  have E16 := Aside0.mk EE
  clear EE
  try dsimp only at h
  replace h := Option.bind_eq_some_iff.mp h
  obtain ⟨t2, EE, h⟩ := h
  have E17 := Aside0.mk EE
  clear EE
  try dsimp only at h
  by_cases C18 : ¬ (t2 = true)
  · rw [if_neg C18] at h; exact absurd h (by simp)
  replace C18 := Classical.not_not.mp C18
  rw [if_pos C18] at h
  subst C18
  replace h := Option.bind_eq_some_iff.mp h
  obtain ⟨b1, EE, h⟩ := h
  have E19 := Aside0.mk EE
  clear EE
  try dsimp only at h
  replace h := Option.bind_eq_some_iff.mp h
  obtain ⟨t3, EE, h⟩ := h
  have E20 := Aside0.mk EE
  clear EE
  try dsimp only at h
  by_cases C21 : ¬ (t3 = true)
  · rw [if_neg C21] at h; exact absurd h (by simp)
  replace C21 := Classical.not_not.mp C21
  rw [if_pos C21] at h
  subst C21
  replace h := Option.bind_eq_some_iff.mp h
  obtain ⟨b2, EE, h⟩ := h
  have E22 := Aside0.mk EE
  clear EE
  try dsimp only at h
  replace h := Option.bind_eq_some_iff.mp h
  obtain ⟨t4, EE, h⟩ := h
  have E23 := Aside0.mk EE
  clear EE
  try dsimp only at h
  by_cases C24 : ¬ (t4 = true)
  · rw [if_neg C24] at h; exact absurd h (by simp)
  replace C24 := Classical.not_not.mp C24
  rw [if_pos C24] at h
  subst C24
  replace h := Option.bind_eq_some_iff.mp h
  obtain ⟨k1, EE, h⟩ := h
  have E25 := Aside0.mk EE
  clear EE
  try dsimp only at h
  replace h := Option.bind_eq_some_iff.mp h
  obtain ⟨k2, EE, h⟩ := h
  have E26 := Aside0.mk EE
  clear EE
  try dsimp only at h
  replace h := Option.bind_eq_some_iff.mp h
  obtain ⟨⟨k3, z2⟩, EE, h⟩ := h
  have E27 := Aside0.mk EE
  clear EE
  try dsimp only at h
  by_cases C28 : k3 < 0
  · rw [if_pos C28] at h; exact absurd h (by simp)
  rw [if_neg C28] at h
  have C28a : decide (k3 < 0) = false := decide_eq_false C28
  clear C28
  replace h := Option.bind_eq_some_iff.mp h
  obtain ⟨s1, EE, h⟩ := h
  have E29 := Aside0.mk EE
  clear EE
  try dsimp only at h
  by_cases C30 : ¬ (s1 = true)
  · rw [if_neg C30] at h; exact absurd h (by simp)
  replace C30 := Classical.not_not.mp C30
  rw [if_pos C30] at h
  subst C30
  replace h := Option.bind_eq_some_iff.mp h
  obtain ⟨⟨m1, e0⟩, EE, h⟩ := h
  have E31 := Aside0.mk EE
  clear EE
  try dsimp only at h
  replace h := Option.bind_eq_some_iff.mp h
  obtain ⟨q1, EE, h⟩ := h
  have E32 := Aside0.mk EE
  clear EE
  try dsimp only at h
  by_cases C33 : q1 < 0
  · rw [if_pos C33] at h; exact absurd h (by simp)
  rw [if_neg C33] at h
  have C33a : decide (q1 < 0) = false := decide_eq_false C33
  clear C33
  by_cases C34 : ¬ (m1 = q1)
  · rw [if_neg C34] at h; exact absurd h (by simp)
  replace C34 := Classical.not_not.mp C34
  rw [if_pos C34] at h
  subst C34
  have C34a : (m1 != m1) = false := by simp
  have C34b : (m1 == m1) = true := by simp
  replace h := Option.bind_eq_some_iff.mp h
  obtain ⟨d0, EE, h⟩ := h
  have E35 := Aside0.mk EE
  clear EE
  try dsimp only at h
  replace h := Option.bind_eq_some_iff.mp h
  obtain ⟨d1, EE, h⟩ := h
  have E36 := Aside0.mk EE
  clear EE
  try dsimp only at h
  replace h := Option.bind_eq_some_iff.mp h
  obtain ⟨d2, EE, h⟩ := h
  have E37 := Aside0.mk EE
  clear EE
  try dsimp only at h
  replace h := Option.bind_eq_some_iff.mp h
  obtain ⟨h0, EE, h⟩ := h
  have E38 := Aside0.mk EE
  clear EE
  try dsimp only at h
  replace h := Option.bind_eq_some_iff.mp h
  obtain ⟨s2, EE, h⟩ := h
  have E39 := Aside0.mk EE
  clear EE
  try dsimp only at h
  by_cases C40 : ¬ (s2 = true)
  · rw [if_neg C40] at h; exact absurd h (by simp)
  replace C40 := Classical.not_not.mp C40
  rw [if_pos C40] at h
  subst C40
  replace h := Option.bind_eq_some_iff.mp h
  obtain ⟨q2, EE, h⟩ := h
  have E41 := Aside0.mk EE
  clear EE
  try dsimp only at h
  by_cases C42 : ¬ (m1 = q2)
  · rw [if_neg C42] at h; exact absurd h (by simp)
  replace C42 := Classical.not_not.mp C42
  rw [if_pos C42] at h
  subst C42
  have C42a : (m1 != m1) = false := by simp
  have C42b : (m1 == m1) = true := by simp
  obtain rfl := Option.some.inj h
  clear h
  go_enter Try.func8, Try.ntmps8
  go_wp2_with (first | (go_at_call 12; (with_reducible refine (laws_szUnitS.calls (hr0 := (Kd.C_below HR_l0.out (by repeat (first | (with_reducible first | exact HB.out | apply below_alloc | apply pw_below_drewN | apply below_drew1) | exact HB.out)))) (hc0 := HC_l0.out) (h := E0.out)).mono ?_); rintro e w1 ⟨rfl, hd⟩; (first | have hb := pu_below_of hd | have hb := hd); clear hd; have Z1 := Aside0.mk (show w.heap.size ≤ w1.heap.size from hb.size); have HB' := Aside0.mk (below_step (by repeat (first | (with_reducible first | exact HB.out | apply below_alloc | apply pw_below_drewN | apply below_drew1) | exact HB.out)) hb); clear HB; have HB := HB'; clear HB'; clear E0) | (go_at_call 12; (with_reducible refine (laws_szUnitS.calls (hr0 := (Kd.C_below HR_l1.out (by repeat (first | (with_reducible first | exact HB.out | apply below_alloc | apply pw_below_drewN | apply below_drew1) | exact HB.out)))) (hc0 := HC_l1.out) (h := E2.out)).mono ?_); rintro e w2 ⟨rfl, hd⟩; (first | have hb := pu_below_of hd | have hb := hd); clear hd; have Z2 := Aside0.mk (show w1.heap.size ≤ w2.heap.size from hb.size); have HB' := Aside0.mk (below_step (by repeat (first | (with_reducible first | exact HB.out | apply below_alloc | apply pw_below_drewN | apply below_drew1) | exact HB.out)) hb); clear HB; have HB := HB'; clear HB'; clear E2) | (go_at_call 17; (with_reducible refine (laws_szStringS.calls (hr0 := (Kd.C_below HR_l2.out (by repeat (first | (with_reducible first | exact HB.out | apply below_alloc | apply pw_below_drewN | apply below_drew1) | exact HB.out)))) (hc0 := HC_l2.out) (h := E4.out)).mono ?_); rintro e w3 ⟨rfl, hd⟩; (first | have hb := pu_below_of hd | have hb := hd); clear hd; have Z3 := Aside0.mk (show w2.heap.size ≤ w3.heap.size from hb.size); have HB' := Aside0.mk (below_step (by repeat (first | (with_reducible first | exact HB.out | apply below_alloc | apply pw_below_drewN | apply below_drew1) | exact HB.out)) hb); clear HB; have HB := HB'; clear HB'; clear E4) | (go_at_call 14; (with_reducible refine (laws_toUnitS.calls (hr0 := (Kd.C_below HR_l0.out (by repeat (first | (with_reducible first | exact HB.out | apply below_alloc | apply pw_below_drewN | apply below_drew1) | exact HB.out)))) (hc0 := HC_l0.out) (h := E6.out)).mono ?_); rintro e w4 ⟨v0_, rfl, ho0, hb⟩; have H_a0 := Aside0.mk (show Kd.S _ _ w4 w.heap.size (fun k_ => w3.heap.size ≤ k_ ∧ k_ < w4.heap.size) v0_ a0 from Kd.S_mono (Kd.S_lower (Kd.S_bound ho0) HB.out.size) (fun k_ hk_ => ⟨hk_.2.1, hk_.2.2.1⟩)); obtain ⟨A_a0, c_a0, e_a0⟩ := Kd.S_slice ho0; subst e_a0; clear ho0; have Z4 := Aside0.mk (show w3.heap.size ≤ w4.heap.size from hb.size); have HB' := Aside0.mk (below_step (by repeat (first | (with_reducible first | exact HB.out | apply below_alloc | apply pw_below_drewN | apply below_drew1) | exact HB.out)) hb); clear HB; have HB := HB'; clear HB'; clear E6) | (go_at_call 14; (with_reducible refine (laws_toUnitS.calls (hr0 := (Kd.C_below HR_l1.out (by repeat (first | (with_reducible first | exact HB.out | apply below_alloc | apply pw_below_drewN | apply below_drew1) | exact HB.out)))) (hc0 := HC_l1.out) (h := E7.out)).mono ?_); rintro e w5 ⟨v0_, rfl, ho0, hb⟩; have H_a0' := Aside0.mk (Kd.S_below (by first | exact H_a0.out | exact Kd.S_drewN H_a0.out _) hb); have H_a1 := Aside0.mk (show Kd.S _ _ w5 w.heap.size (fun k_ => w4.heap.size ≤ k_ ∧ k_ < w5.heap.size) v0_ a1 from Kd.S_mono (Kd.S_lower (Kd.S_bound ho0) HB.out.size) (fun k_ hk_ => ⟨hk_.2.1, hk_.2.2.1⟩)); obtain ⟨A_a1, c_a1, e_a1⟩ := Kd.S_slice ho0; subst e_a1; clear ho0; have Z5 := Aside0.mk (show w4.heap.size ≤ w5.heap.size from hb.size); have HB' := Aside0.mk (below_step (by repeat (first | (with_reducible first | exact HB.out | apply below_alloc | apply pw_below_drewN | apply below_drew1) | exact HB.out)) hb); clear HB; have HB := HB'; clear HB'; clear H_a0; have H_a0 := H_a0'; clear H_a0'; clear E7) | (go_at_call 20; (with_reducible refine (laws_toStringS.calls (hr0 := (Kd.C_below HR_l2.out (by repeat (first | (with_reducible first | exact HB.out | apply below_alloc | apply pw_below_drewN | apply below_drew1) | exact HB.out)))) (hc0 := HC_l2.out) (h := E8.out)).mono ?_); rintro e w6 ⟨v0_, rfl, ho0, hb⟩; have H_a0' := Aside0.mk (Kd.S_below (by first | exact H_a0.out | exact Kd.S_drewN H_a0.out _) hb); have H_a1' := Aside0.mk (Kd.S_below (by first | exact H_a1.out | exact Kd.S_drewN H_a1.out _) hb); have H_a2 := Aside0.mk (show Kd.R _ _ w6 w.heap.size (fun k_ => w5.heap.size ≤ k_ ∧ k_ < w6.heap.size) v0_ a2 from Kd.R_mono (Kd.R_lower (Kd.R_bound ho0) HB.out.size) (fun k_ hk_ => ⟨hk_.2.1, hk_.2.2.1⟩)); obtain ⟨A_a2, c_a2, e_a2⟩ := Kd.R_slice ho0; subst e_a2; clear ho0; have Z6 := Aside0.mk (show w5.heap.size ≤ w6.heap.size from hb.size); have HB' := Aside0.mk (below_step (by repeat (first | (with_reducible first | exact HB.out | apply below_alloc | apply pw_below_drewN | apply below_drew1) | exact HB.out)) hb); clear HB; have HB := HB'; clear HB'; clear H_a0; clear H_a1; have H_a0 := H_a0'; clear H_a0'; have H_a1 := H_a1'; clear H_a1'; clear E8) | (go_at_call 35; (with_reducible refine (spec_PlanUnits.calls (hr0 := (Kd.S_reads' (by first | exact H_a0.out | exact Kd.S_drewN H_a0.out _)).2.2) (hc0 := (Kd.S_reads' H_a0.out).2.1) (hr1 := (Kd.S_reads' (by first | exact H_a1.out | exact Kd.S_drewN H_a1.out _)).2.2) (hc1 := (Kd.S_reads' H_a1.out).2.1) (hr2 := (Kd.R_reads' (by first | exact H_a2.out | exact Kd.R_drewN H_a2.out _)).2.2) (hc2 := (Kd.R_reads' H_a2.out).2.1) (h := E9.out)).mono ?_); rintro e w7 ⟨v0_, rfl, ho0, hb⟩; have H_a0' := Aside0.mk (Kd.S_below (by first | exact H_a0.out | exact Kd.S_drewN H_a0.out _) hb); have H_a1' := Aside0.mk (Kd.S_below (by first | exact H_a1.out | exact Kd.S_drewN H_a1.out _) hb); have H_a2' := Aside0.mk (Kd.R_below (by first | exact H_a2.out | exact Kd.R_drewN H_a2.out _) hb); have H_w0 := Aside0.mk (show Kd.R _ _ w7 w.heap.size (fun k_ => w6.heap.size ≤ k_ ∧ k_ < w7.heap.size) v0_ w0 from Kd.R_mono (Kd.R_lower (Kd.R_bound ho0) HB.out.size) (fun k_ hk_ => ⟨hk_.2.1, hk_.2.2.1⟩)); obtain ⟨A_w0, c_w0, e_w0⟩ := Kd.R_slice ho0; subst e_w0; clear ho0; have Z7 := Aside0.mk (show w6.heap.size ≤ w7.heap.size from hb.size); have HB' := Aside0.mk (below_step (by repeat (first | (with_reducible first | exact HB.out | apply below_alloc | apply pw_below_drewN | apply below_drew1) | exact HB.out)) hb); clear HB; have HB := HB'; clear HB'; clear H_a0; clear H_a1; clear H_a2; have H_a0 := H_a0'; clear H_a0'; have H_a1 := H_a1'; clear H_a1'; have H_a2 := H_a2'; clear H_a2'; clear H_a0; clear H_a1; clear H_a2; clear E9) | (go_at_call 14; (with_reducible refine (laws_toUnitS.calls (hr0 := (Kd.C_below HR_l0.out (by repeat (first | (with_reducible first | exact HB.out | apply below_alloc | apply pw_below_drewN | apply below_drew1) | exact HB.out)))) (hc0 := HC_l0.out) (h := E10.out)).mono ?_); rintro e w8 ⟨v0_, rfl, ho0, hb⟩; have H_w0' := Aside0.mk (Kd.R_below (by first | exact H_w0.out | exact Kd.R_drewN H_w0.out _) hb); have H_x0 := Aside0.mk (show Kd.S _ _ w8 w.heap.size (fun k_ => w7.heap.size ≤ k_ ∧ k_ < w8.heap.size) v0_ x0 from Kd.S_mono (Kd.S_lower (Kd.S_bound ho0) HB.out.size) (fun k_ hk_ => ⟨hk_.2.1, hk_.2.2.1⟩)); obtain ⟨A_x0, c_x0, e_x0⟩ := Kd.S_slice ho0; subst e_x0; clear ho0; have Z8 := Aside0.mk (show w7.heap.size ≤ w8.heap.size from hb.size); have HB' := Aside0.mk (below_step (by repeat (first | (with_reducible first | exact HB.out | apply below_alloc | apply pw_below_drewN | apply below_drew1) | exact HB.out)) hb); clear HB; have HB := HB'; clear HB'; clear H_w0; have H_w0 := H_w0'; clear H_w0'; clear E10) | (go_at_call 14; (with_reducible refine (laws_toUnitS.calls (hr0 := (Kd.C_below HR_l1.out (by repeat (first | (with_reducible first | exact HB.out | apply below_alloc | apply pw_below_drewN | apply below_drew1) | exact HB.out)))) (hc0 := HC_l1.out) (h := E11.out)).mono ?_); rintro e w9 ⟨v0_, rfl, ho0, hb⟩; have H_w0' := Aside0.mk (Kd.R_below (by first | exact H_w0.out | exact Kd.R_drewN H_w0.out _) hb); have H_x0' := Aside0.mk (Kd.S_below (by first | exact H_x0.out | exact Kd.S_drewN H_x0.out _) hb); have H_x1 := Aside0.mk (show Kd.S _ _ w9 w.heap.size (fun k_ => w8.heap.size ≤ k_ ∧ k_ < w9.heap.size) v0_ x1 from Kd.S_mono (Kd.S_lower (Kd.S_bound ho0) HB.out.size) (fun k_ hk_ => ⟨hk_.2.1, hk_.2.2.1⟩)); obtain ⟨A_x1, c_x1, e_x1⟩ := Kd.S_slice ho0; subst e_x1; clear ho0; have Z9 := Aside0.mk (show w8.heap.size ≤ w9.heap.size from hb.size); have HB' := Aside0.mk (below_step (by repeat (first | (with_reducible first | exact HB.out | apply below_alloc | apply pw_below_drewN | apply below_drew1) | exact HB.out)) hb); clear HB; have HB := HB'; clear HB'; clear H_w0; clear H_x0; have H_w0 := H_w0'; clear H_w0'; have H_x0 := H_x0'; clear H_x0'; clear E11) | (go_at_call 20; (with_reducible refine (laws_toStringS.calls (hr0 := (Kd.C_below HR_l2.out (by repeat (first | (with_reducible first | exact HB.out | apply below_alloc | apply pw_below_drewN | apply below_drew1) | exact HB.out)))) (hc0 := HC_l2.out) (h := E12.out)).mono ?_); rintro e w10 ⟨v0_, rfl, ho0, hb⟩; have H_w0' := Aside0.mk (Kd.R_below (by first | exact H_w0.out | exact Kd.R_drewN H_w0.out _) hb); have H_x0' := Aside0.mk (Kd.S_below (by first | exact H_x0.out | exact Kd.S_drewN H_x0.out _) hb); have H_x1' := Aside0.mk (Kd.S_below (by first | exact H_x1.out | exact Kd.S_drewN H_x1.out _) hb); have H_x2 := Aside0.mk (show Kd.R _ _ w10 w.heap.size (fun k_ => w9.heap.size ≤ k_ ∧ k_ < w10.heap.size) v0_ x2 from Kd.R_mono (Kd.R_lower (Kd.R_bound ho0) HB.out.size) (fun k_ hk_ => ⟨hk_.2.1, hk_.2.2.1⟩)); obtain ⟨A_x2, c_x2, e_x2⟩ := Kd.R_slice ho0; subst e_x2; clear ho0; have Z10 := Aside0.mk (show w9.heap.size ≤ w10.heap.size from hb.size); have HB' := Aside0.mk (below_step (by repeat (first | (with_reducible first | exact HB.out | apply below_alloc | apply pw_below_drewN | apply below_drew1) | exact HB.out)) hb); clear HB; have HB := HB'; clear HB'; clear H_w0; clear H_x0; clear H_x1; have H_w0 := H_w0'; clear H_w0'; have H_x0 := H_x0'; clear H_x0'; have H_x1 := H_x1'; clear H_x1'; clear E12) | (go_at_call 36; (with_reducible refine (impl_PlanUnits.calls (hr0 := (Kd.S_reads' (by first | exact H_x0.out | exact Kd.S_drewN H_x0.out _)).2.2) (hc0 := (Kd.S_reads' H_x0.out).2.1) (hr1 := (Kd.S_reads' (by first | exact H_x1.out | exact Kd.S_drewN H_x1.out _)).2.2) (hc1 := (Kd.S_reads' H_x1.out).2.1) (hr2 := (Kd.R_reads' (by first | exact H_x2.out | exact Kd.R_drewN H_x2.out _)).2.2) (hc2 := (Kd.R_reads' H_x2.out).2.1) (h := E13.out)).mono ?_); rintro e w11 ⟨v0_, rfl, ho0, hb⟩; have H_w0' := Aside0.mk (Kd.R_below (by first | exact H_w0.out | exact Kd.R_drewN H_w0.out _) hb); have H_x0' := Aside0.mk (Kd.S_below (by first | exact H_x0.out | exact Kd.S_drewN H_x0.out _) hb); have H_x1' := Aside0.mk (Kd.S_below (by first | exact H_x1.out | exact Kd.S_drewN H_x1.out _) hb); have H_x2' := Aside0.mk (Kd.R_below (by first | exact H_x2.out | exact Kd.R_drewN H_x2.out _) hb); have H_g0 := Aside0.mk (show Kd.R _ _ w11 w.heap.size (fun k_ => w10.heap.size ≤ k_ ∧ k_ < w11.heap.size) v0_ g0 from Kd.R_mono (Kd.R_lower (Kd.R_bound ho0) HB.out.size) (fun k_ hk_ => ⟨hk_.2.1, hk_.2.2.1⟩)); obtain ⟨A_g0, c_g0, e_g0⟩ := Kd.R_slice ho0; subst e_g0; clear ho0; have Z11 := Aside0.mk (show w10.heap.size ≤ w11.heap.size from hb.size); have HB' := Aside0.mk (below_step (by repeat (first | (with_reducible first | exact HB.out | apply below_alloc | apply pw_below_drewN | apply below_drew1) | exact HB.out)) hb); clear HB; have HB := HB'; clear HB'; clear H_w0; clear H_x0; clear H_x1; clear H_x2; have H_w0 := H_w0'; clear H_w0'; have H_x0 := H_x0'; clear H_x0'; have H_x1 := H_x1'; clear H_x1'; have H_x2 := H_x2'; clear H_x2'; clear E13) | (go_at_call 24; (with_reducible refine (laws_eqActS.calls (hr0 := (Kd.R_reads' (by first | exact H_g0.out | exact Kd.R_drewN H_g0.out _)).2.2) (hc0 := (Kd.R_reads' H_g0.out).2.1) (hr1 := (Kd.R_reads' (by first | exact H_w0.out | exact Kd.R_drewN H_w0.out _)).2.2) (hc1 := (Kd.R_reads' H_w0.out).2.1) (h := E14.out)).mono ?_); rintro e w12 ⟨rfl, hd⟩; (first | have hb := pu_below_of hd | have hb := hd); clear hd; have Z12 := Aside0.mk (show w11.heap.size ≤ w12.heap.size from hb.size); have HB' := Aside0.mk (below_step (by repeat (first | (with_reducible first | exact HB.out | apply below_alloc | apply pw_below_drewN | apply below_drew1) | exact HB.out)) hb); clear HB; have HB := HB'; clear HB'; have H_w0' := Aside0.mk (Kd.R_below (by first | exact H_w0.out | exact Kd.R_drewN H_w0.out _) hb); have H_x0' := Aside0.mk (Kd.S_below (by first | exact H_x0.out | exact Kd.S_drewN H_x0.out _) hb); have H_x1' := Aside0.mk (Kd.S_below (by first | exact H_x1.out | exact Kd.S_drewN H_x1.out _) hb); have H_x2' := Aside0.mk (Kd.R_below (by first | exact H_x2.out | exact Kd.R_drewN H_x2.out _) hb); have H_g0' := Aside0.mk (Kd.R_below (by first | exact H_g0.out | exact Kd.R_drewN H_g0.out _) hb); clear H_w0; clear H_x0; clear H_x1; clear H_x2; clear H_g0; have H_w0 := H_w0'; clear H_w0'; have H_x0 := H_x0'; clear H_x0'; have H_x1 := H_x1'; clear H_x1'; have H_x2 := H_x2'; clear H_x2'; have H_g0 := H_g0'; clear H_g0'; clear E14) | (go_at_call 14; (with_reducible refine (laws_toUnitS.calls (hr0 := (Kd.C_below HR_l0.out (by repeat (first | (with_reducible first | exact HB.out | apply below_alloc | apply pw_below_drewN | apply below_drew1) | exact HB.out)))) (hc0 := HC_l0.out) (h := E16.out)).mono ?_); rintro e w13 ⟨v0_, rfl, ho0, hb⟩; have H_w0' := Aside0.mk (Kd.R_below (by first | exact H_w0.out | exact Kd.R_drewN H_w0.out _) hb); have H_x0' := Aside0.mk (Kd.S_below (by first | exact H_x0.out | exact Kd.S_drewN H_x0.out _) hb); have H_x1' := Aside0.mk (Kd.S_below (by first | exact H_x1.out | exact Kd.S_drewN H_x1.out _) hb); have H_x2' := Aside0.mk (Kd.R_below (by first | exact H_x2.out | exact Kd.R_drewN H_x2.out _) hb); have H_g0' := Aside0.mk (Kd.R_below (by first | exact H_g0.out | exact Kd.R_drewN H_g0.out _) hb); have H_b0 := Aside0.mk (show Kd.S _ _ w13 w.heap.size (fun k_ => w12.heap.size ≤ k_ ∧ k_ < w13.heap.size) v0_ b0 from Kd.S_mono (Kd.S_lower (Kd.S_bound ho0) HB.out.size) (fun k_ hk_ => ⟨hk_.2.1, hk_.2.2.1⟩)); obtain ⟨A_b0, c_b0, e_b0⟩ := Kd.S_slice ho0; subst e_b0; clear ho0; have Z13 := Aside0.mk (show w12.heap.size ≤ w13.heap.size from hb.size); have HB' := Aside0.mk (below_step (by repeat (first | (with_reducible first | exact HB.out | apply below_alloc | apply pw_below_drewN | apply below_drew1) | exact HB.out)) hb); clear HB; have HB := HB'; clear HB'; clear H_w0; clear H_x0; clear H_x1; clear H_x2; clear H_g0; have H_w0 := H_w0'; clear H_w0'; have H_x0 := H_x0'; clear H_x0'; have H_x1 := H_x1'; clear H_x1'; have H_x2 := H_x2'; clear H_x2'; have H_g0 := H_g0'; clear H_g0'; clear E16) | (go_at_call 16; (with_reducible refine (laws_eqUnitS.calls (hr0 := (Kd.S_reads' (by first | exact H_x0.out | exact Kd.S_drewN H_x0.out _)).2.2) (hc0 := (Kd.S_reads' H_x0.out).2.1) (hr1 := (Kd.S_reads' (by first | exact H_b0.out | exact Kd.S_drewN H_b0.out _)).2.2) (hc1 := (Kd.S_reads' H_b0.out).2.1) (h := E17.out)).mono ?_); rintro e w14 ⟨rfl, hd⟩; (first | have hb := pu_below_of hd | have hb := hd); clear hd; have Z14 := Aside0.mk (show w13.heap.size ≤ w14.heap.size from hb.size); have HB' := Aside0.mk (below_step (by repeat (first | (with_reducible first | exact HB.out | apply below_alloc | apply pw_below_drewN | apply below_drew1) | exact HB.out)) hb); clear HB; have HB := HB'; clear HB'; have H_w0' := Aside0.mk (Kd.R_below (by first | exact H_w0.out | exact Kd.R_drewN H_w0.out _) hb); have H_x0' := Aside0.mk (Kd.S_below (by first | exact H_x0.out | exact Kd.S_drewN H_x0.out _) hb); have H_x1' := Aside0.mk (Kd.S_below (by first | exact H_x1.out | exact Kd.S_drewN H_x1.out _) hb); have H_x2' := Aside0.mk (Kd.R_below (by first | exact H_x2.out | exact Kd.R_drewN H_x2.out _) hb); have H_g0' := Aside0.mk (Kd.R_below (by first | exact H_g0.out | exact Kd.R_drewN H_g0.out _) hb); have H_b0' := Aside0.mk (Kd.S_below (by first | exact H_b0.out | exact Kd.S_drewN H_b0.out _) hb); clear H_w0; clear H_x0; clear H_x1; clear H_x2; clear H_g0; clear H_b0; have H_w0 := H_w0'; clear H_w0'; have H_x0 := H_x0'; clear H_x0'; have H_x1 := H_x1'; clear H_x1'; have H_x2 := H_x2'; clear H_x2'; have H_g0 := H_g0'; clear H_g0'; have H_b0 := H_b0'; clear H_b0'; clear H_b0; clear E17) | (go_at_call 14; (with_reducible refine (laws_toUnitS.calls (hr0 := (Kd.C_below HR_l1.out (by repeat (first | (with_reducible first | exact HB.out | apply below_alloc | apply pw_below_drewN | apply below_drew1) | exact HB.out)))) (hc0 := HC_l1.out) (h := E19.out)).mono ?_); rintro e w15 ⟨v0_, rfl, ho0, hb⟩; have H_w0' := Aside0.mk (Kd.R_below (by first | exact H_w0.out | exact Kd.R_drewN H_w0.out _) hb); have H_x0' := Aside0.mk (Kd.S_below (by first | exact H_x0.out | exact Kd.S_drewN H_x0.out _) hb); have H_x1' := Aside0.mk (Kd.S_below (by first | exact H_x1.out | exact Kd.S_drewN H_x1.out _) hb); have H_x2' := Aside0.mk (Kd.R_below (by first | exact H_x2.out | exact Kd.R_drewN H_x2.out _) hb); have H_g0' := Aside0.mk (Kd.R_below (by first | exact H_g0.out | exact Kd.R_drewN H_g0.out _) hb); have H_b1 := Aside0.mk (show Kd.S _ _ w15 w.heap.size (fun k_ => w14.heap.size ≤ k_ ∧ k_ < w15.heap.size) v0_ b1 from Kd.S_mono (Kd.S_lower (Kd.S_bound ho0) HB.out.size) (fun k_ hk_ => ⟨hk_.2.1, hk_.2.2.1⟩)); obtain ⟨A_b1, c_b1, e_b1⟩ := Kd.S_slice ho0; subst e_b1; clear ho0; have Z15 := Aside0.mk (show w14.heap.size ≤ w15.heap.size from hb.size); have HB' := Aside0.mk (below_step (by repeat (first | (with_reducible first | exact HB.out | apply below_alloc | apply pw_below_drewN | apply below_drew1) | exact HB.out)) hb); clear HB; have HB := HB'; clear HB'; clear H_w0; clear H_x0; clear H_x1; clear H_x2; clear H_g0; have H_w0 := H_w0'; clear H_w0'; have H_x0 := H_x0'; clear H_x0'; have H_x1 := H_x1'; clear H_x1'; have H_x2 := H_x2'; clear H_x2'; have H_g0 := H_g0'; clear H_g0'; clear E19) | (go_at_call 16; (with_reducible refine (laws_eqUnitS.calls (hr0 := (Kd.S_reads' (by first | exact H_x1.out | exact Kd.S_drewN H_x1.out _)).2.2) (hc0 := (Kd.S_reads' H_x1.out).2.1) (hr1 := (Kd.S_reads' (by first | exact H_b1.out | exact Kd.S_drewN H_b1.out _)).2.2) (hc1 := (Kd.S_reads' H_b1.out).2.1) (h := E20.out)).mono ?_); rintro e w16 ⟨rfl, hd⟩; (first | have hb := pu_below_of hd | have hb := hd); clear hd; have Z16 := Aside0.mk (show w15.heap.size ≤ w16.heap.size from hb.size); have HB' := Aside0.mk (below_step (by repeat (first | (with_reducible first | exact HB.out | apply below_alloc | apply pw_below_drewN | apply below_drew1) | exact HB.out)) hb); clear HB; have HB := HB'; clear HB'; have H_w0' := Aside0.mk (Kd.R_below (by first | exact H_w0.out | exact Kd.R_drewN H_w0.out _) hb); have H_x0' := Aside0.mk (Kd.S_below (by first | exact H_x0.out | exact Kd.S_drewN H_x0.out _) hb); have H_x1' := Aside0.mk (Kd.S_below (by first | exact H_x1.out | exact Kd.S_drewN H_x1.out _) hb); have H_x2' := Aside0.mk (Kd.R_below (by first | exact H_x2.out | exact Kd.R_drewN H_x2.out _) hb); have H_g0' := Aside0.mk (Kd.R_below (by first | exact H_g0.out | exact Kd.R_drewN H_g0.out _) hb); have H_b1' := Aside0.mk (Kd.S_below (by first | exact H_b1.out | exact Kd.S_drewN H_b1.out _) hb); clear H_w0; clear H_x0; clear H_x1; clear H_x2; clear H_g0; clear H_b1; have H_w0 := H_w0'; clear H_w0'; have H_x0 := H_x0'; clear H_x0'; have H_x1 := H_x1'; clear H_x1'; have H_x2 := H_x2'; clear H_x2'; have H_g0 := H_g0'; clear H_g0'; have H_b1 := H_b1'; clear H_b1'; clear H_b1; clear E20) | (go_at_call 20; (with_reducible refine (laws_toStringS.calls (hr0 := (Kd.C_below HR_l2.out (by repeat (first | (with_reducible first | exact HB.out | apply below_alloc | apply pw_below_drewN | apply below_drew1) | exact HB.out)))) (hc0 := HC_l2.out) (h := E22.out)).mono ?_); rintro e w17 ⟨v0_, rfl, ho0, hb⟩; have H_w0' := Aside0.mk (Kd.R_below (by first | exact H_w0.out | exact Kd.R_drewN H_w0.out _) hb); have H_x0' := Aside0.mk (Kd.S_below (by first | exact H_x0.out | exact Kd.S_drewN H_x0.out _) hb); have H_x1' := Aside0.mk (Kd.S_below (by first | exact H_x1.out | exact Kd.S_drewN H_x1.out _) hb); have H_x2' := Aside0.mk (Kd.R_below (by first | exact H_x2.out | exact Kd.R_drewN H_x2.out _) hb); have H_g0' := Aside0.mk (Kd.R_below (by first | exact H_g0.out | exact Kd.R_drewN H_g0.out _) hb); have H_b2 := Aside0.mk (show Kd.R _ _ w17 w.heap.size (fun k_ => w16.heap.size ≤ k_ ∧ k_ < w17.heap.size) v0_ b2 from Kd.R_mono (Kd.R_lower (Kd.R_bound ho0) HB.out.size) (fun k_ hk_ => ⟨hk_.2.1, hk_.2.2.1⟩)); obtain ⟨A_b2, c_b2, e_b2⟩ := Kd.R_slice ho0; subst e_b2; clear ho0; have Z17 := Aside0.mk (show w16.heap.size ≤ w17.heap.size from hb.size); have HB' := Aside0.mk (below_step (by repeat (first | (with_reducible first | exact HB.out | apply below_alloc | apply pw_below_drewN | apply below_drew1) | exact HB.out)) hb); clear HB; have HB := HB'; clear HB'; clear H_w0; clear H_x0; clear H_x1; clear H_x2; clear H_g0; have H_w0 := H_w0'; clear H_w0'; have H_x0 := H_x0'; clear H_x0'; have H_x1 := H_x1'; clear H_x1'; have H_x2 := H_x2'; clear H_x2'; have H_g0 := H_g0'; clear H_g0'; clear E22) | (go_at_call 23; (with_reducible refine (laws_eqStringS.calls (hr0 := (Kd.R_reads' (by first | exact H_x2.out | exact Kd.R_drewN H_x2.out _)).2.2) (hc0 := (Kd.R_reads' H_x2.out).2.1) (hr1 := (Kd.R_reads' (by first | exact H_b2.out | exact Kd.R_drewN H_b2.out _)).2.2) (hc1 := (Kd.R_reads' H_b2.out).2.1) (h := E23.out)).mono ?_); rintro e w18 ⟨rfl, hd⟩; (first | have hb := pu_below_of hd | have hb := hd); clear hd; have Z18 := Aside0.mk (show w17.heap.size ≤ w18.heap.size from hb.size); have HB' := Aside0.mk (below_step (by repeat (first | (with_reducible first | exact HB.out | apply below_alloc | apply pw_below_drewN | apply below_drew1) | exact HB.out)) hb); clear HB; have HB := HB'; clear HB'; have H_w0' := Aside0.mk (Kd.R_below (by first | exact H_w0.out | exact Kd.R_drewN H_w0.out _) hb); have H_x0' := Aside0.mk (Kd.S_below (by first | exact H_x0.out | exact Kd.S_drewN H_x0.out _) hb); have H_x1' := Aside0.mk (Kd.S_below (by first | exact H_x1.out | exact Kd.S_drewN H_x1.out _) hb); have H_x2' := Aside0.mk (Kd.R_below (by first | exact H_x2.out | exact Kd.R_drewN H_x2.out _) hb); have H_g0' := Aside0.mk (Kd.R_below (by first | exact H_g0.out | exact Kd.R_drewN H_g0.out _) hb); have H_b2' := Aside0.mk (Kd.R_below (by first | exact H_b2.out | exact Kd.R_drewN H_b2.out _) hb); clear H_w0; clear H_x0; clear H_x1; clear H_x2; clear H_g0; clear H_b2; have H_w0 := H_w0'; clear H_w0'; have H_x0 := H_x0'; clear H_x0'; have H_x1 := H_x1'; clear H_x1'; have H_x2 := H_x2'; clear H_x2'; have H_g0 := H_g0'; clear H_g0'; have H_b2 := H_b2'; clear H_b2'; clear H_b2; clear E23) | (go_at_call 30; (with_reducible refine (laws_markUnitS.calls (w0 := w) (hB := by repeat (first | (with_reducible first | exact HB.out | apply below_alloc | apply pw_below_drewN | apply below_drew1) | exact HB.out)) (ho0 := by first | exact H_x0.out | exact Kd.S_drewN H_x0.out _) (h := E25.out)).mono ?_); rintro e w19 ⟨rfl, hb0, hk⟩; have Z19 := Aside0.mk (show w18.heap.size ≤ w19.heap.size from hk.1); have H_w0' := Aside0.mk (Kd.R_kept (by first | exact H_w0.out | exact Kd.R_drewN H_w0.out _) hk (fun k_ h1_ h2_ => by have h1_ : w6.heap.size ≤ k_ ∧ k_ < w7.heap.size := h1_; have h2_ : w7.heap.size ≤ k_ ∧ k_ < w8.heap.size := h2_; have := Z1.out; have := Z2.out; have := Z3.out; have := Z4.out; have := Z5.out; have := Z6.out; have := Z7.out; have := Z8.out; have := Z9.out; have := Z10.out; have := Z11.out; have := Z12.out; have := Z13.out; have := Z14.out; have := Z15.out; have := Z16.out; have := Z17.out; have := Z18.out; have := Z19.out; omega)); have H_x1' := Aside0.mk (Kd.S_kept (by first | exact H_x1.out | exact Kd.S_drewN H_x1.out _) hk (fun k_ h1_ h2_ => by have h1_ : w8.heap.size ≤ k_ ∧ k_ < w9.heap.size := h1_; have h2_ : w7.heap.size ≤ k_ ∧ k_ < w8.heap.size := h2_; have := Z1.out; have := Z2.out; have := Z3.out; have := Z4.out; have := Z5.out; have := Z6.out; have := Z7.out; have := Z8.out; have := Z9.out; have := Z10.out; have := Z11.out; have := Z12.out; have := Z13.out; have := Z14.out; have := Z15.out; have := Z16.out; have := Z17.out; have := Z18.out; have := Z19.out; omega)); have H_x2' := Aside0.mk (Kd.R_kept (by first | exact H_x2.out | exact Kd.R_drewN H_x2.out _) hk (fun k_ h1_ h2_ => by have h1_ : w9.heap.size ≤ k_ ∧ k_ < w10.heap.size := h1_; have h2_ : w7.heap.size ≤ k_ ∧ k_ < w8.heap.size := h2_; have := Z1.out; have := Z2.out; have := Z3.out; have := Z4.out; have := Z5.out; have := Z6.out; have := Z7.out; have := Z8.out; have := Z9.out; have := Z10.out; have := Z11.out; have := Z12.out; have := Z13.out; have := Z14.out; have := Z15.out; have := Z16.out; have := Z17.out; have := Z18.out; have := Z19.out; omega)); have H_g0' := Aside0.mk (Kd.R_kept (by first | exact H_g0.out | exact Kd.R_drewN H_g0.out _) hk (fun k_ h1_ h2_ => by have h1_ : w10.heap.size ≤ k_ ∧ k_ < w11.heap.size := h1_; have h2_ : w7.heap.size ≤ k_ ∧ k_ < w8.heap.size := h2_; have := Z1.out; have := Z2.out; have := Z3.out; have := Z4.out; have := Z5.out; have := Z6.out; have := Z7.out; have := Z8.out; have := Z9.out; have := Z10.out; have := Z11.out; have := Z12.out; have := Z13.out; have := Z14.out; have := Z15.out; have := Z16.out; have := Z17.out; have := Z18.out; have := Z19.out; omega)); have HB' := Aside0.mk hb0; clear HB; have HB := HB'; clear HB' hb0 hk; clear H_x0; clear H_w0; have H_w0 := H_w0'; clear H_w0'; clear H_x1; have H_x1 := H_x1'; clear H_x1'; clear H_x2; have H_x2 := H_x2'; clear H_x2'; clear H_g0; have H_g0 := H_g0'; clear H_g0'; clear E25) | (go_at_call 30; (with_reducible refine (laws_markUnitS.calls (w0 := w) (hB := by repeat (first | (with_reducible first | exact HB.out | apply below_alloc | apply pw_below_drewN | apply below_drew1) | exact HB.out)) (ho0 := by first | exact H_x1.out | exact Kd.S_drewN H_x1.out _) (h := E26.out)).mono ?_); rintro e w20 ⟨rfl, hb0, hk⟩; have Z20 := Aside0.mk (show w19.heap.size ≤ w20.heap.size from hk.1); have H_w0' := Aside0.mk (Kd.R_kept (by first | exact H_w0.out | exact Kd.R_drewN H_w0.out _) hk (fun k_ h1_ h2_ => by have h1_ : w6.heap.size ≤ k_ ∧ k_ < w7.heap.size := h1_; have h2_ : w8.heap.size ≤ k_ ∧ k_ < w9.heap.size := h2_; have := Z1.out; have := Z2.out; have := Z3.out; have := Z4.out; have := Z5.out; have := Z6.out; have := Z7.out; have := Z8.out; have := Z9.out; have := Z10.out; have := Z11.out; have := Z12.out; have := Z13.out; have := Z14.out; have := Z15.out; have := Z16.out; have := Z17.out; have := Z18.out; have := Z19.out; have := Z20.out; omega)); have H_x2' := Aside0.mk (Kd.R_kept (by first | exact H_x2.out | exact Kd.R_drewN H_x2.out _) hk (fun k_ h1_ h2_ => by have h1_ : w9.heap.size ≤ k_ ∧ k_ < w10.heap.size := h1_; have h2_ : w8.heap.size ≤ k_ ∧ k_ < w9.heap.size := h2_; have := Z1.out; have := Z2.out; have := Z3.out; have := Z4.out; have := Z5.out; have := Z6.out; have := Z7.out; have := Z8.out; have := Z9.out; have := Z10.out; have := Z11.out; have := Z12.out; have := Z13.out; have := Z14.out; have := Z15.out; have := Z16.out; have := Z17.out; have := Z18.out; have := Z19.out; have := Z20.out; omega)); have H_g0' := Aside0.mk (Kd.R_kept (by first | exact H_g0.out | exact Kd.R_drewN H_g0.out _) hk (fun k_ h1_ h2_ => by have h1_ : w10.heap.size ≤ k_ ∧ k_ < w11.heap.size := h1_; have h2_ : w8.heap.size ≤ k_ ∧ k_ < w9.heap.size := h2_; have := Z1.out; have := Z2.out; have := Z3.out; have := Z4.out; have := Z5.out; have := Z6.out; have := Z7.out; have := Z8.out; have := Z9.out; have := Z10.out; have := Z11.out; have := Z12.out; have := Z13.out; have := Z14.out; have := Z15.out; have := Z16.out; have := Z17.out; have := Z18.out; have := Z19.out; have := Z20.out; omega)); have HB' := Aside0.mk hb0; clear HB; have HB := HB'; clear HB' hb0 hk; clear H_x1; clear H_w0; have H_w0 := H_w0'; clear H_w0'; clear H_x2; have H_x2 := H_x2'; clear H_x2'; clear H_g0; have H_g0 := H_g0'; clear H_g0'; clear E26) | (go_at_call 25; (with_reducible refine (laws_markStringS.calls (w0 := w) (hB := by repeat (first | (with_reducible first | exact HB.out | apply below_alloc | apply pw_below_drewN | apply below_drew1) | exact HB.out)) (ho0 := by first | exact H_x2.out | exact Kd.R_drewN H_x2.out _) (h := E27.out)).mono ?_); rintro e w21 ⟨rfl, ho, hb0, hk⟩; have hl := (Kd.R_reads' ho).1; have Z21 := Aside0.mk (show w20.heap.size ≤ w21.heap.size from hk.1); have H_w0' := Aside0.mk (Kd.R_kept (by first | exact H_w0.out | exact Kd.R_drewN H_w0.out _) hk (fun k_ h1_ h2_ => by have h1_ : w6.heap.size ≤ k_ ∧ k_ < w7.heap.size := h1_; have h2_ : w9.heap.size ≤ k_ ∧ k_ < w10.heap.size := h2_; have := Z1.out; have := Z2.out; have := Z3.out; have := Z4.out; have := Z5.out; have := Z6.out; have := Z7.out; have := Z8.out; have := Z9.out; have := Z10.out; have := Z11.out; have := Z12.out; have := Z13.out; have := Z14.out; have := Z15.out; have := Z16.out; have := Z17.out; have := Z18.out; have := Z19.out; have := Z20.out; have := Z21.out; omega)); have H_g0' := Aside0.mk (Kd.R_kept (by first | exact H_g0.out | exact Kd.R_drewN H_g0.out _) hk (fun k_ h1_ h2_ => by have h1_ : w10.heap.size ≤ k_ ∧ k_ < w11.heap.size := h1_; have h2_ : w9.heap.size ≤ k_ ∧ k_ < w10.heap.size := h2_; have := Z1.out; have := Z2.out; have := Z3.out; have := Z4.out; have := Z5.out; have := Z6.out; have := Z7.out; have := Z8.out; have := Z9.out; have := Z10.out; have := Z11.out; have := Z12.out; have := Z13.out; have := Z14.out; have := Z15.out; have := Z16.out; have := Z17.out; have := Z18.out; have := Z19.out; have := Z20.out; have := Z21.out; omega)); have HB' := Aside0.mk hb0; clear HB; have HB := HB'; clear HB' hb0 hk; rw [hl] at ho; have H_x2' := Aside0.mk (Kd.R_bound ho); rw [hl]; clear ho; clear H_w0; clear H_x2; clear H_g0; have H_w0 := H_w0'; clear H_w0'; have H_z2 := H_x2'; clear H_x2'; have H_g0 := H_g0'; clear H_g0'; clear H_z2; clear E27) | (go_at_call 24; (with_reducible refine (laws_eqActS.calls (hr0 := (Kd.R_reads' (by first | exact H_g0.out | exact Kd.R_drewN H_g0.out _)).2.2) (hc0 := (Kd.R_reads' H_g0.out).2.1) (hr1 := (Kd.R_reads' (by first | exact H_w0.out | exact Kd.R_drewN H_w0.out _)).2.2) (hc1 := (Kd.R_reads' H_w0.out).2.1) (h := E29.out)).mono ?_); rintro e w22 ⟨rfl, hd⟩; (first | have hb := pu_below_of hd | have hb := hd); clear hd; have Z22 := Aside0.mk (show w21.heap.size ≤ w22.heap.size from hb.size); have HB' := Aside0.mk (below_step (by repeat (first | (with_reducible first | exact HB.out | apply below_alloc | apply pw_below_drewN | apply below_drew1) | exact HB.out)) hb); clear HB; have HB := HB'; clear HB'; have H_w0' := Aside0.mk (Kd.R_below (by first | exact H_w0.out | exact Kd.R_drewN H_w0.out _) hb); have H_g0' := Aside0.mk (Kd.R_below (by first | exact H_g0.out | exact Kd.R_drewN H_g0.out _) hb); clear H_w0; clear H_g0; have H_w0 := H_w0'; clear H_w0'; have H_g0 := H_g0'; clear H_g0'; clear E29) | (go_at_call 26; (with_reducible refine (laws_markActS.calls (w0 := w) (hB := by repeat (first | (with_reducible first | exact HB.out | apply below_alloc | apply pw_below_drewN | apply below_drew1) | exact HB.out)) (ho0 := by first | exact H_g0.out | exact Kd.R_drewN H_g0.out _) (h := E31.out)).mono ?_); rintro e w23 ⟨rfl, ho, hb0, hk⟩; have hl := (Kd.R_reads' ho).1; have Z23 := Aside0.mk (show w22.heap.size ≤ w23.heap.size from hk.1); have H_w0' := Aside0.mk (Kd.R_kept (by first | exact H_w0.out | exact Kd.R_drewN H_w0.out _) hk (fun k_ h1_ h2_ => by have h1_ : w6.heap.size ≤ k_ ∧ k_ < w7.heap.size := h1_; have h2_ : w10.heap.size ≤ k_ ∧ k_ < w11.heap.size := h2_; have := Z1.out; have := Z2.out; have := Z3.out; have := Z4.out; have := Z5.out; have := Z6.out; have := Z7.out; have := Z8.out; have := Z9.out; have := Z10.out; have := Z11.out; have := Z12.out; have := Z13.out; have := Z14.out; have := Z15.out; have := Z16.out; have := Z17.out; have := Z18.out; have := Z19.out; have := Z20.out; have := Z21.out; have := Z22.out; have := Z23.out; omega)); have HB' := Aside0.mk hb0; clear HB; have HB := HB'; clear HB' hb0 hk; rw [hl] at ho; have H_g0' := Aside0.mk (Kd.R_bound ho); rw [hl]; clear ho; clear H_w0; clear H_g0; have H_w0 := H_w0'; clear H_w0'; have H_e0 := H_g0'; clear H_g0'; clear E31) | (go_at_call 37; (with_reducible refine (laws_heldActS.calls (hr0 := (Kd.R_reads' (by first | exact H_e0.out | exact Kd.R_drewN H_e0.out _)).2.2) (hc0 := (Kd.R_reads' H_e0.out).2.1) (h := E32.out)).mono ?_); rintro e w24 ⟨rfl, hd⟩; (first | have hb := pu_below_of hd | have hb := hd); clear hd; have Z24 := Aside0.mk (show w23.heap.size ≤ w24.heap.size from hb.size); have HB' := Aside0.mk (below_step (by repeat (first | (with_reducible first | exact HB.out | apply below_alloc | apply pw_below_drewN | apply below_drew1) | exact HB.out)) hb); clear HB; have HB := HB'; clear HB'; have H_w0' := Aside0.mk (Kd.R_below (by first | exact H_w0.out | exact Kd.R_drewN H_w0.out _) hb); have H_e0' := Aside0.mk (Kd.R_below (by first | exact H_e0.out | exact Kd.R_drewN H_e0.out _) hb); clear H_w0; clear H_e0; have H_w0 := H_w0'; clear H_w0'; have H_e0 := H_e0'; clear H_e0'; clear E32) | (go_at_call 14; (with_reducible refine (laws_toUnitS.calls (hr0 := (Kd.C_below HR_l0.out (by repeat (first | (with_reducible first | exact HB.out | apply below_alloc | apply pw_below_drewN | apply below_drew1) | exact HB.out)))) (hc0 := HC_l0.out) (h := E35.out)).mono ?_); rintro e w25 ⟨v0_, rfl, ho0, hb⟩; have H_w0' := Aside0.mk (Kd.R_below (by first | exact H_w0.out | exact Kd.R_drewN H_w0.out _) hb); have H_e0' := Aside0.mk (Kd.R_below (by first | exact H_e0.out | exact Kd.R_drewN H_e0.out _) hb); have H_d0 := Aside0.mk (show Kd.S _ _ w25 w.heap.size (fun k_ => w24.heap.size ≤ k_ ∧ k_ < w25.heap.size) v0_ d0 from Kd.S_mono (Kd.S_lower (Kd.S_bound ho0) HB.out.size) (fun k_ hk_ => ⟨hk_.2.1, hk_.2.2.1⟩)); obtain ⟨A_d0, c_d0, e_d0⟩ := Kd.S_slice ho0; subst e_d0; clear ho0; have Z25 := Aside0.mk (show w24.heap.size ≤ w25.heap.size from hb.size); have HB' := Aside0.mk (below_step (by repeat (first | (with_reducible first | exact HB.out | apply below_alloc | apply pw_below_drewN | apply below_drew1) | exact HB.out)) hb); clear HB; have HB := HB'; clear HB'; clear H_w0; clear H_e0; have H_w0 := H_w0'; clear H_w0'; have H_e0 := H_e0'; clear H_e0'; clear E35) | (go_at_call 14; (with_reducible refine (laws_toUnitS.calls (hr0 := (Kd.C_below HR_l1.out (by repeat (first | (with_reducible first | exact HB.out | apply below_alloc | apply pw_below_drewN | apply below_drew1) | exact HB.out)))) (hc0 := HC_l1.out) (h := E36.out)).mono ?_); rintro e w26 ⟨v0_, rfl, ho0, hb⟩; have H_w0' := Aside0.mk (Kd.R_below (by first | exact H_w0.out | exact Kd.R_drewN H_w0.out _) hb); have H_e0' := Aside0.mk (Kd.R_below (by first | exact H_e0.out | exact Kd.R_drewN H_e0.out _) hb); have H_d0' := Aside0.mk (Kd.S_below (by first | exact H_d0.out | exact Kd.S_drewN H_d0.out _) hb); have H_d1 := Aside0.mk (show Kd.S _ _ w26 w.heap.size (fun k_ => w25.heap.size ≤ k_ ∧ k_ < w26.heap.size) v0_ d1 from Kd.S_mono (Kd.S_lower (Kd.S_bound ho0) HB.out.size) (fun k_ hk_ => ⟨hk_.2.1, hk_.2.2.1⟩)); obtain ⟨A_d1, c_d1, e_d1⟩ := Kd.S_slice ho0; subst e_d1; clear ho0; have Z26 := Aside0.mk (show w25.heap.size ≤ w26.heap.size from hb.size); have HB' := Aside0.mk (below_step (by repeat (first | (with_reducible first | exact HB.out | apply below_alloc | apply pw_below_drewN | apply below_drew1) | exact HB.out)) hb); clear HB; have HB := HB'; clear HB'; clear H_w0; clear H_e0; clear H_d0; have H_w0 := H_w0'; clear H_w0'; have H_e0 := H_e0'; clear H_e0'; have H_d0 := H_d0'; clear H_d0'; clear E36) | (go_at_call 20; (with_reducible refine (laws_toStringS.calls (hr0 := (Kd.C_below HR_l2.out (by repeat (first | (with_reducible first | exact HB.out | apply below_alloc | apply pw_below_drewN | apply below_drew1) | exact HB.out)))) (hc0 := HC_l2.out) (h := E37.out)).mono ?_); rintro e w27 ⟨v0_, rfl, ho0, hb⟩; have H_w0' := Aside0.mk (Kd.R_below (by first | exact H_w0.out | exact Kd.R_drewN H_w0.out _) hb); have H_e0' := Aside0.mk (Kd.R_below (by first | exact H_e0.out | exact Kd.R_drewN H_e0.out _) hb); have H_d0' := Aside0.mk (Kd.S_below (by first | exact H_d0.out | exact Kd.S_drewN H_d0.out _) hb); have H_d1' := Aside0.mk (Kd.S_below (by first | exact H_d1.out | exact Kd.S_drewN H_d1.out _) hb); have H_d2 := Aside0.mk (show Kd.R _ _ w27 w.heap.size (fun k_ => w26.heap.size ≤ k_ ∧ k_ < w27.heap.size) v0_ d2 from Kd.R_mono (Kd.R_lower (Kd.R_bound ho0) HB.out.size) (fun k_ hk_ => ⟨hk_.2.1, hk_.2.2.1⟩)); obtain ⟨A_d2, c_d2, e_d2⟩ := Kd.R_slice ho0; subst e_d2; clear ho0; have Z27 := Aside0.mk (show w26.heap.size ≤ w27.heap.size from hb.size); have HB' := Aside0.mk (below_step (by repeat (first | (with_reducible first | exact HB.out | apply below_alloc | apply pw_below_drewN | apply below_drew1) | exact HB.out)) hb); clear HB; have HB := HB'; clear HB'; clear H_w0; clear H_e0; clear H_d0; clear H_d1; have H_w0 := H_w0'; clear H_w0'; have H_e0 := H_e0'; clear H_e0'; have H_d0 := H_d0'; clear H_d0'; have H_d1 := H_d1'; clear H_d1'; clear E37) | (go_at_call 36; (with_reducible refine (impl_PlanUnits.calls (hr0 := (Kd.S_reads' (by first | exact H_d0.out | exact Kd.S_drewN H_d0.out _)).2.2) (hc0 := (Kd.S_reads' H_d0.out).2.1) (hr1 := (Kd.S_reads' (by first | exact H_d1.out | exact Kd.S_drewN H_d1.out _)).2.2) (hc1 := (Kd.S_reads' H_d1.out).2.1) (hr2 := (Kd.R_reads' (by first | exact H_d2.out | exact Kd.R_drewN H_d2.out _)).2.2) (hc2 := (Kd.R_reads' H_d2.out).2.1) (h := E38.out)).mono ?_); rintro e w28 ⟨v0_, rfl, ho0, hb⟩; have H_w0' := Aside0.mk (Kd.R_below (by first | exact H_w0.out | exact Kd.R_drewN H_w0.out _) hb); have H_e0' := Aside0.mk (Kd.R_below (by first | exact H_e0.out | exact Kd.R_drewN H_e0.out _) hb); have H_d0' := Aside0.mk (Kd.S_below (by first | exact H_d0.out | exact Kd.S_drewN H_d0.out _) hb); have H_d1' := Aside0.mk (Kd.S_below (by first | exact H_d1.out | exact Kd.S_drewN H_d1.out _) hb); have H_d2' := Aside0.mk (Kd.R_below (by first | exact H_d2.out | exact Kd.R_drewN H_d2.out _) hb); have H_h0 := Aside0.mk (show Kd.R _ _ w28 w.heap.size (fun k_ => w27.heap.size ≤ k_ ∧ k_ < w28.heap.size) v0_ h0 from Kd.R_mono (Kd.R_lower (Kd.R_bound ho0) HB.out.size) (fun k_ hk_ => ⟨hk_.2.1, hk_.2.2.1⟩)); obtain ⟨A_h0, c_h0, e_h0⟩ := Kd.R_slice ho0; subst e_h0; clear ho0; have Z28 := Aside0.mk (show w27.heap.size ≤ w28.heap.size from hb.size); have HB' := Aside0.mk (below_step (by repeat (first | (with_reducible first | exact HB.out | apply below_alloc | apply pw_below_drewN | apply below_drew1) | exact HB.out)) hb); clear HB; have HB := HB'; clear HB'; clear H_w0; clear H_e0; clear H_d0; clear H_d1; clear H_d2; have H_w0 := H_w0'; clear H_w0'; have H_e0 := H_e0'; clear H_e0'; have H_d0 := H_d0'; clear H_d0'; have H_d1 := H_d1'; clear H_d1'; have H_d2 := H_d2'; clear H_d2'; clear H_d0; clear H_d1; clear H_d2; clear E38) | (go_at_call 24; (with_reducible refine (laws_eqActS.calls (hr0 := (Kd.R_reads' (by first | exact H_h0.out | exact Kd.R_drewN H_h0.out _)).2.2) (hc0 := (Kd.R_reads' H_h0.out).2.1) (hr1 := (Kd.R_reads' (by first | exact H_w0.out | exact Kd.R_drewN H_w0.out _)).2.2) (hc1 := (Kd.R_reads' H_w0.out).2.1) (h := E39.out)).mono ?_); rintro e w29 ⟨rfl, hd⟩; (first | have hb := pu_below_of hd | have hb := hd); clear hd; have Z29 := Aside0.mk (show w28.heap.size ≤ w29.heap.size from hb.size); have HB' := Aside0.mk (below_step (by repeat (first | (with_reducible first | exact HB.out | apply below_alloc | apply pw_below_drewN | apply below_drew1) | exact HB.out)) hb); clear HB; have HB := HB'; clear HB'; have H_w0' := Aside0.mk (Kd.R_below (by first | exact H_w0.out | exact Kd.R_drewN H_w0.out _) hb); have H_e0' := Aside0.mk (Kd.R_below (by first | exact H_e0.out | exact Kd.R_drewN H_e0.out _) hb); have H_h0' := Aside0.mk (Kd.R_below (by first | exact H_h0.out | exact Kd.R_drewN H_h0.out _) hb); clear H_w0; clear H_e0; clear H_h0; have H_w0 := H_w0'; clear H_w0'; have H_e0 := H_e0'; clear H_e0'; have H_h0 := H_h0'; clear H_h0'; clear H_w0; clear H_h0; clear E39) | (go_at_call 37; (with_reducible refine (laws_heldActS.calls (hr0 := (Kd.R_reads' (by first | exact H_e0.out | exact Kd.R_drewN H_e0.out _)).2.2) (hc0 := (Kd.R_reads' H_e0.out).2.1) (h := E41.out)).mono ?_); rintro e w30 ⟨rfl, hd⟩; (first | have hb := pu_below_of hd | have hb := hd); clear hd; have Z30 := Aside0.mk (show w29.heap.size ≤ w30.heap.size from hb.size); have HB' := Aside0.mk (below_step (by repeat (first | (with_reducible first | exact HB.out | apply below_alloc | apply pw_below_drewN | apply below_drew1) | exact HB.out)) hb); clear HB; have HB := HB'; clear HB'; have H_e0' := Aside0.mk (Kd.R_below (by first | exact H_e0.out | exact Kd.R_drewN H_e0.out _) hb); clear H_e0; have H_e0 := H_e0'; clear H_e0'; clear H_e0; clear E41))
  go_ret
  exact ⟨rfl, by repeat (first | (with_reducible first | exact HB.out | apply below_alloc | apply pw_below_drewN | apply below_drew1) | exact HB.out)⟩

/-- THE ONE PURE STATEMENT of laws_FnExactPlanUnits: yours. -/
def laws_FnExactPlanUnits.Pure : Prop := ∀ (l0 : List (S65)) (l1 : List (S65)) (l2 : List ByteArray), (l0.length ≤ maxLen ∧ ∀ y0 ∈ l0, (y0.f0.size ≤ maxLen ∧ (y0.f1.length ≤ maxLen ∧ ∀ y1 ∈ y0.f1, y1.size ≤ maxLen) ∧ (y0.f2.length ≤ maxLen ∧ ∀ y1 ∈ y0.f2, y1.size ≤ maxLen) ∧ y0.f3.size ≤ maxLen ∧ True)) → (l1.length ≤ maxLen ∧ ∀ y0 ∈ l1, (y0.f0.size ≤ maxLen ∧ (y0.f1.length ≤ maxLen ∧ ∀ y1 ∈ y0.f1, y1.size ≤ maxLen) ∧ (y0.f2.length ≤ maxLen ∧ ∀ y1 ∈ y0.f2, y1.size ≤ maxLen) ∧ y0.f3.size ≤ maxLen ∧ True)) → (l2.length ≤ maxLen ∧ ∀ y0 ∈ l2, y0.size ≤ maxLen) → ∃ k, laws_FnExactPlanUnits.f k l0 l1 l2 = some true
theorem laws_FnExactPlanUnits.walk (P : laws_FnExactPlanUnits.Pure) (A0 : Option Addr) (c0 : Nat) (l0 : List (S65)) (A1 : Option Addr) (c1 : Nat) (l1 : List (S65)) (A2 : Option Addr) (c2 : Nat) (l2 : List ByteArray) (w : World) (hr0 : Kd.C k65 w A0 l0.length l0) (hc0 : l0.length ≤ c0) (hr1 : Kd.C k65 w A1 l1.length l1) (hc1 : l1.length ≤ c1) (hr2 : Kd.C Kd.string w A2 l2.length l2) (hc2 : l2.length ≤ c2) (ok0 : (l0.length ≤ maxLen ∧ ∀ y0 ∈ l0, (y0.f0.size ≤ maxLen ∧ (y0.f1.length ≤ maxLen ∧ ∀ y1 ∈ y0.f1, y1.size ≤ maxLen) ∧ (y0.f2.length ≤ maxLen ∧ ∀ y1 ∈ y0.f2, y1.size ≤ maxLen) ∧ y0.f3.size ≤ maxLen ∧ True))) (ok1 : (l1.length ≤ maxLen ∧ ∀ y0 ∈ l1, (y0.f0.size ≤ maxLen ∧ (y0.f1.length ≤ maxLen ∧ ∀ y1 ∈ y0.f1, y1.size ≤ maxLen) ∧ (y0.f2.length ≤ maxLen ∧ ∀ y1 ∈ y0.f2, y1.size ≤ maxLen) ∧ y0.f3.size ≤ maxLen ∧ True))) (ok2 : (l2.length ≤ maxLen ∧ ∀ y0 ∈ l2, y0.size ≤ maxLen)) :
    Calls Try.prog 8 #[.slice A0 l0.length c0, .slice A1 l1.length c1, .slice A2 l2.length c2] w fun e w' => e = .returned (.bool true) ∧ Below w.heap.size w w' := by
  obtain ⟨k, h⟩ := P l0 l1 l2 ok0 ok1 ok2
  refine (laws_FnExactPlanUnits.calls k _ _ l0 _ _ l1 _ _ l2 true w hr0 hc0 hr1 hc1 hr2 hc2 h).mono ?_
  rintro e w' ⟨rfl, hd⟩
  exact ⟨rfl, hd⟩
end Go.Proofs.Ytnahkojlamficaa.PFnExactPlanUnits
