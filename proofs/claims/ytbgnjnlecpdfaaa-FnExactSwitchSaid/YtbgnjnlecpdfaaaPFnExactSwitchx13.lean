-- Laid by a program of this session: a turned copy of the kit's print, with contracts by hand beside.
import Derived.Test.YtbgnjnlecpdfaaaPFnExactSwitchx0
import Derived.Test.YtbgnjnlecpdfaaaPFnExactSwitchx1
import Derived.Test.YtbgnjnlecpdfaaaPFnExactSwitchx2
import Derived.Test.YtbgnjnlecpdfaaaPFnExactSwitchx3
import Derived.Test.YtbgnjnlecpdfaaaPFnExactSwitchx8
import Derived.Test.YtbgnjnlecpdfaaaPFnExactSwitchx12
namespace Go.Proofs.Ytbgnjnlecpdfaaa.PFnExactSwitch
open Go.RowKit Go.Proofs.YtbgnjnlecpdfaaaW.PrintWords Go.Proofs.YtbgnjnlecpdfaaaW.PrintLast Go.Proofs.YtbgnjnlecpdfaaaW.PrintMore
attribute [local go_sem] max2_int min2_int max_two min_two max_three min_three max_four min_four   -- for this text's walks alone
set_option linter.unusedVariables false
set_option linter.unusedSimpArgs false

/-! ### laws_FnExactSwitch: function 7 -/
def laws_FnExactSwitch.f (k : Nat) (l0 : List (S49)) (a1 : ByteArray) (a2 : ByteArray) : Option Bool := if (a1.size : Int) > 1048576 then some true else (if (a2.size : Int) > 1048576 then some true else ((laws_szProfileS.f k l0 1048576).bind fun t0 => (if t0 < 0 then some true else ((laws_toProfileS.f k l0).bind fun a0 => ((spec_Switch.f k a0 a1 a2).bind fun ⟨w0, w1⟩ => ((laws_toProfileS.f k l0).bind fun x0 => ((impl_Switch.f k x0 a1 a2).bind fun ⟨g0, g1⟩ => ((laws_eqProfileS.f k g0 w0).bind fun t1 => (if t1 = true then (if g1 = w1 then ((laws_toProfileS.f k l0).bind fun b0 => ((laws_eqProfileS.f k x0 b0).bind fun t2 => (if t2 = true then ((laws_markProfileS.f k x0 1).bind fun ⟨k1, z0⟩ => (if k1 < 0 then none else ((laws_eqProfileS.f k g0 w0).bind fun s1 => (if s1 = true then ((laws_markProfileS.f k g0 1).bind fun ⟨m1, e0⟩ => ((laws_heldProfileS.f k e0 1).bind fun q1 => (if q1 < 0 then none else (if m1 = q1 then ((laws_toProfileS.f k l0).bind fun c0 => ((impl_Switch.f k c0 a1 a2).bind fun ⟨h0, h1⟩ => ((laws_eqProfileS.f k h0 w0).bind fun s2 => (if s2 = true then (if g1 = h1 then ((laws_heldProfileS.f k e0 1).bind fun q2 => (if m1 = q2 then (some true) else none)) else none) else none)))) else none)))) else none)))) else none))) else none) else none)))))))))
set_option maxHeartbeats 8000000 in
set_option maxRecDepth 100000 in
theorem laws_FnExactSwitch.calls (k : Nat) (Al0 : Option Addr) (cl0 : Nat) (l0 : List (S49)) (a1 : ByteArray) (a2 : ByteArray) (r : Bool) (w : World) (hrl0 : Kd.C k49 w Al0 l0.length l0) (hcl0 : l0.length ≤ cl0) (h : laws_FnExactSwitch.f k l0 a1 a2 = some r) :
    Calls Try.prog 7 #[.slice Al0 l0.length cl0, .string a1, .string a2] w fun e w' => e = .returned (.bool r) ∧ Below w.heap.size w w' := by
  have HR_l0 := Aside0.mk hrl0
  have HC_l0 := Aside0.mk hcl0
  clear hrl0 hcl0
  have HB := Aside0.mk (Below.refl w.heap.size w)
  unfold laws_FnExactSwitch.f at h
  by_cases C0 : (a1.size : Int) > 1048576
  · rw [if_pos C0] at h
    have C0a : decide (1048576 < (a1.size : Int)) = true := decide_eq_true C0
    have C0b : decide (1048576 < a1.size) = true := decide_eq_true (by omega)
    clear C0
    obtain rfl := Option.some.inj h
    clear h
    go_enter Try.func7, Try.ntmps7
    go_wp2
    go_ret
    exact ⟨rfl, by repeat (first | (with_reducible first | exact HB.out | apply below_alloc | apply pw_below_drewN | apply below_drew1) | exact HB.out)⟩
  rw [if_neg C0] at h
  have C0a : decide (1048576 < (a1.size : Int)) = false := decide_eq_false C0
  have C0b : decide (1048576 < a1.size) = false := decide_eq_false (by omega)
  clear C0
  by_cases C1 : (a2.size : Int) > 1048576
  · rw [if_pos C1] at h
    have C1a : decide (1048576 < (a2.size : Int)) = true := decide_eq_true C1
    have C1b : decide (1048576 < a2.size) = true := decide_eq_true (by omega)
    clear C1
    obtain rfl := Option.some.inj h
    clear h
    go_enter Try.func7, Try.ntmps7
    go_wp2
    go_ret
    exact ⟨rfl, by repeat (first | (with_reducible first | exact HB.out | apply below_alloc | apply pw_below_drewN | apply below_drew1) | exact HB.out)⟩
  rw [if_neg C1] at h
  have C1a : decide (1048576 < (a2.size : Int)) = false := decide_eq_false C1
  have C1b : decide (1048576 < a2.size) = false := decide_eq_false (by omega)
  clear C1
  replace h := Option.bind_eq_some_iff.mp h
  obtain ⟨t0, EE, h⟩ := h
  have E2 := Aside0.mk EE
  clear EE
  try dsimp only at h
  by_cases C3 : t0 < 0
  · rw [if_pos C3] at h
    have C3a : decide (t0 < 0) = true := decide_eq_true C3
    clear C3
    obtain rfl := Option.some.inj h
    clear h
    go_enter Try.func7, Try.ntmps7
    go_wp2_with (first | (go_at_call 9; (with_reducible refine (laws_szProfileS.calls (hr0 := (Kd.C_below HR_l0.out (by repeat (first | (with_reducible first | exact HB.out | apply below_alloc | apply pw_below_drewN | apply below_drew1) | exact HB.out)))) (hc0 := HC_l0.out) (h := E2.out)).mono ?_); rintro e w1 ⟨rfl, hd⟩; (first | have hb := below_of hd | have hb := hd); clear hd; have Z1 := Aside0.mk (show w.heap.size ≤ w1.heap.size from hb.size); have HB' := Aside0.mk (below_step (by repeat (first | (with_reducible first | exact HB.out | apply below_alloc | apply pw_below_drewN | apply below_drew1) | exact HB.out)) hb); clear HB; have HB := HB'; clear HB'; clear E2))
    go_ret
    exact ⟨rfl, by repeat (first | (with_reducible first | exact HB.out | apply below_alloc | apply pw_below_drewN | apply below_drew1) | exact HB.out)⟩
  rw [if_neg C3] at h
  have C3a : decide (t0 < 0) = false := decide_eq_false C3
  clear C3
  replace h := Option.bind_eq_some_iff.mp h
  obtain ⟨a0, EE, h⟩ := h
  have E4 := Aside0.mk EE
  clear EE
  try dsimp only at h
  replace h := Option.bind_eq_some_iff.mp h
  obtain ⟨⟨w0, w1⟩, EE, h⟩ := h
  have E5 := Aside0.mk EE
  clear EE
  try dsimp only at h
  replace h := Option.bind_eq_some_iff.mp h
  obtain ⟨x0, EE, h⟩ := h
  have E6 := Aside0.mk EE
  clear EE
  try dsimp only at h
  replace h := Option.bind_eq_some_iff.mp h
  obtain ⟨⟨g0, g1⟩, EE, h⟩ := h
  have E7 := Aside0.mk EE
  clear EE
  try dsimp only at h
  replace h := Option.bind_eq_some_iff.mp h
  obtain ⟨t1, EE, h⟩ := h
  have E8 := Aside0.mk EE
  clear EE
  try dsimp only at h
  by_cases C9 : ¬ (t1 = true)
  · rw [if_neg C9] at h; exact absurd h (by simp)
  replace C9 := Classical.not_not.mp C9
  rw [if_pos C9] at h
  subst C9
  by_cases C10 : ¬ (g1 = w1)
  · rw [if_neg C10] at h; exact absurd h (by simp)
  replace C10 := Classical.not_not.mp C10
  rw [if_pos C10] at h
  subst C10
  have C10a : (g1 != g1) = false := by simp
  have C10b : (g1 == g1) = true := by simp
  replace h := Option.bind_eq_some_iff.mp h
  obtain ⟨b0, EE, h⟩ := h
  have E11 := Aside0.mk EE
  clear EE
  try dsimp only at h
  replace h := Option.bind_eq_some_iff.mp h
  obtain ⟨t2, EE, h⟩ := h
  have E12 := Aside0.mk EE
  clear EE
  try dsimp only at h
  by_cases C13 : ¬ (t2 = true)
  · rw [if_neg C13] at h; exact absurd h (by simp)
  replace C13 := Classical.not_not.mp C13
  rw [if_pos C13] at h
  subst C13
  replace h := Option.bind_eq_some_iff.mp h
  obtain ⟨⟨k1, z0⟩, EE, h⟩ := h
  have E14 := Aside0.mk EE
  clear EE
  try dsimp only at h
  by_cases C15 : k1 < 0
  · rw [if_pos C15] at h; exact absurd h (by simp)
  rw [if_neg C15] at h
  have C15a : decide (k1 < 0) = false := decide_eq_false C15
  clear C15
  replace h := Option.bind_eq_some_iff.mp h
  obtain ⟨s1, EE, h⟩ := h
  have E16 := Aside0.mk EE
  clear EE
  try dsimp only at h
  by_cases C17 : ¬ (s1 = true)
  · rw [if_neg C17] at h; exact absurd h (by simp)
  replace C17 := Classical.not_not.mp C17
  rw [if_pos C17] at h
  subst C17
  replace h := Option.bind_eq_some_iff.mp h
  obtain ⟨⟨m1, e0⟩, EE, h⟩ := h
  have E18 := Aside0.mk EE
  clear EE
  try dsimp only at h
  replace h := Option.bind_eq_some_iff.mp h
  obtain ⟨q1, EE, h⟩ := h
  have E19 := Aside0.mk EE
  clear EE
  try dsimp only at h
  by_cases C20 : q1 < 0
  · rw [if_pos C20] at h; exact absurd h (by simp)
  rw [if_neg C20] at h
  have C20a : decide (q1 < 0) = false := decide_eq_false C20
  clear C20
  by_cases C21 : ¬ (m1 = q1)
  · rw [if_neg C21] at h; exact absurd h (by simp)
  replace C21 := Classical.not_not.mp C21
  rw [if_pos C21] at h
  subst C21
  have C21a : (m1 != m1) = false := by simp
  have C21b : (m1 == m1) = true := by simp
  replace h := Option.bind_eq_some_iff.mp h
  obtain ⟨c0, EE, h⟩ := h
  have E22 := Aside0.mk EE
  clear EE
  try dsimp only at h
  replace h := Option.bind_eq_some_iff.mp h
  obtain ⟨⟨h0, h1⟩, EE, h⟩ := h
  have E23 := Aside0.mk EE
  clear EE
  try dsimp only at h
  replace h := Option.bind_eq_some_iff.mp h
  obtain ⟨s2, EE, h⟩ := h
  have E24 := Aside0.mk EE
  clear EE
  try dsimp only at h
  by_cases C25 : ¬ (s2 = true)
  · rw [if_neg C25] at h; exact absurd h (by simp)
  replace C25 := Classical.not_not.mp C25
  rw [if_pos C25] at h
  subst C25
  by_cases C26 : ¬ (g1 = h1)
  · rw [if_neg C26] at h; exact absurd h (by simp)
  replace C26 := Classical.not_not.mp C26
  rw [if_pos C26] at h
  subst C26
  have C26a : (g1 != g1) = false := by simp
  have C26b : (g1 == g1) = true := by simp
  replace h := Option.bind_eq_some_iff.mp h
  obtain ⟨q2, EE, h⟩ := h
  have E27 := Aside0.mk EE
  clear EE
  try dsimp only at h
  by_cases C28 : ¬ (m1 = q2)
  · rw [if_neg C28] at h; exact absurd h (by simp)
  replace C28 := Classical.not_not.mp C28
  rw [if_pos C28] at h
  subst C28
  have C28a : (m1 != m1) = false := by simp
  have C28b : (m1 == m1) = true := by simp
  obtain rfl := Option.some.inj h
  clear h
  go_enter Try.func7, Try.ntmps7
  go_wp2_with (first | (go_at_call 9; (with_reducible refine (laws_szProfileS.calls (hr0 := (Kd.C_below HR_l0.out (by repeat (first | (with_reducible first | exact HB.out | apply below_alloc | apply pw_below_drewN | apply below_drew1) | exact HB.out)))) (hc0 := HC_l0.out) (h := E2.out)).mono ?_); rintro e w1 ⟨rfl, hd⟩; (first | have hb := below_of hd | have hb := hd); clear hd; have Z1 := Aside0.mk (show w.heap.size ≤ w1.heap.size from hb.size); have HB' := Aside0.mk (below_step (by repeat (first | (with_reducible first | exact HB.out | apply below_alloc | apply pw_below_drewN | apply below_drew1) | exact HB.out)) hb); clear HB; have HB := HB'; clear HB'; clear E2) | (go_at_call 11; (with_reducible refine (laws_toProfileS.calls (hr0 := (Kd.C_below HR_l0.out (by repeat (first | (with_reducible first | exact HB.out | apply below_alloc | apply pw_below_drewN | apply below_drew1) | exact HB.out)))) (hc0 := HC_l0.out) (h := E4.out)).mono ?_); rintro e w2 ⟨v0_, rfl, ho0, hb⟩; have H_a0 := Aside0.mk (show Kd.S _ _ w2 w.heap.size (fun k_ => w1.heap.size ≤ k_ ∧ k_ < w2.heap.size) v0_ a0 from Kd.S_mono (Kd.S_lower (Kd.S_bound ho0) HB.out.size) (fun k_ hk_ => ⟨hk_.2.1, hk_.2.2.1⟩)); obtain ⟨A_a0, c_a0, e_a0⟩ := Kd.S_slice ho0; subst e_a0; clear ho0; have Z2 := Aside0.mk (show w1.heap.size ≤ w2.heap.size from hb.size); have HB' := Aside0.mk (below_step (by repeat (first | (with_reducible first | exact HB.out | apply below_alloc | apply pw_below_drewN | apply below_drew1) | exact HB.out)) hb); clear HB; have HB := HB'; clear HB'; clear E4) | (go_at_call 22; (with_reducible refine (spec_Switch.calls (hr0 := (Kd.S_reads' (by first | exact H_a0.out | exact Kd.S_drewN H_a0.out _)).2.2) (hc0 := (Kd.S_reads' H_a0.out).2.1) (h := E5.out)).mono ?_); rintro e w3 ⟨v0_, rfl, ho0, hb⟩; have H_a0' := Aside0.mk (Kd.S_below (by first | exact H_a0.out | exact Kd.S_drewN H_a0.out _) hb); have H_w0 := Aside0.mk (show Kd.N _ _ w3 w.heap.size (fun k_ => w2.heap.size ≤ k_ ∧ k_ < w3.heap.size) v0_ w0 from Kd.N_mono (Kd.N_lower (Kd.N_bound ho0) HB.out.size) (fun k_ hk_ => ⟨hk_.1, hk_.2⟩)); obtain ⟨A_w0, c_w0, e_w0⟩ := Kd.N_slice ho0; subst e_w0; clear ho0; have Z3 := Aside0.mk (show w2.heap.size ≤ w3.heap.size from hb.size); have HB' := Aside0.mk (below_step (by repeat (first | (with_reducible first | exact HB.out | apply below_alloc | apply pw_below_drewN | apply below_drew1) | exact HB.out)) hb); clear HB; have HB := HB'; clear HB'; clear H_a0; have H_a0 := H_a0'; clear H_a0'; clear H_a0; clear E5) | (go_at_call 11; (with_reducible refine (laws_toProfileS.calls (hr0 := (Kd.C_below HR_l0.out (by repeat (first | (with_reducible first | exact HB.out | apply below_alloc | apply pw_below_drewN | apply below_drew1) | exact HB.out)))) (hc0 := HC_l0.out) (h := E6.out)).mono ?_); rintro e w4 ⟨v0_, rfl, ho0, hb⟩; have H_w0' := Aside0.mk (Kd.N_below (by first | exact H_w0.out | exact Kd.N_drewN H_w0.out _) hb); have H_x0 := Aside0.mk (show Kd.S _ _ w4 w.heap.size (fun k_ => w3.heap.size ≤ k_ ∧ k_ < w4.heap.size) v0_ x0 from Kd.S_mono (Kd.S_lower (Kd.S_bound ho0) HB.out.size) (fun k_ hk_ => ⟨hk_.2.1, hk_.2.2.1⟩)); obtain ⟨A_x0, c_x0, e_x0⟩ := Kd.S_slice ho0; subst e_x0; clear ho0; have Z4 := Aside0.mk (show w3.heap.size ≤ w4.heap.size from hb.size); have HB' := Aside0.mk (below_step (by repeat (first | (with_reducible first | exact HB.out | apply below_alloc | apply pw_below_drewN | apply below_drew1) | exact HB.out)) hb); clear HB; have HB := HB'; clear HB'; clear H_w0; have H_w0 := H_w0'; clear H_w0'; clear E6) | (go_at_call 23; (with_reducible refine (impl_Switch.calls (hr0 := (Kd.S_reads' (by first | exact H_x0.out | exact Kd.S_drewN H_x0.out _)).2.2) (hc0 := (Kd.S_reads' H_x0.out).2.1) (h := E7.out)).mono ?_); rintro e w5 ⟨v0_, rfl, ho0, hb⟩; have H_w0' := Aside0.mk (Kd.N_below (by first | exact H_w0.out | exact Kd.N_drewN H_w0.out _) hb); have H_x0' := Aside0.mk (Kd.S_below (by first | exact H_x0.out | exact Kd.S_drewN H_x0.out _) hb); have H_g0 := Aside0.mk (show Kd.S _ _ w5 w.heap.size (fun k_ => w4.heap.size ≤ k_ ∧ k_ < w5.heap.size) v0_ g0 from Kd.S_mono (Kd.S_lower (Kd.S_bound ho0) HB.out.size) (fun k_ hk_ => ⟨hk_.2.1, hk_.2.2.1⟩)); obtain ⟨A_g0, c_g0, e_g0⟩ := Kd.S_slice ho0; subst e_g0; clear ho0; have Z5 := Aside0.mk (show w4.heap.size ≤ w5.heap.size from hb.size); have HB' := Aside0.mk (below_step (by repeat (first | (with_reducible first | exact HB.out | apply below_alloc | apply pw_below_drewN | apply below_drew1) | exact HB.out)) hb); clear HB; have HB := HB'; clear HB'; clear H_w0; clear H_x0; have H_w0 := H_w0'; clear H_w0'; have H_x0 := H_x0'; clear H_x0'; clear E7) | (go_at_call 13; (with_reducible refine (laws_eqProfileS.calls (hr0 := (Kd.S_reads' (by first | exact H_g0.out | exact Kd.S_drewN H_g0.out _)).2.2) (hc0 := (Kd.S_reads' H_g0.out).2.1) (hr1 := (Kd.N_reads' (by first | exact H_w0.out | exact Kd.N_drewN H_w0.out _)).2.2) (hc1 := (Kd.N_reads' H_w0.out).2.1) (h := E8.out)).mono ?_); rintro e w6 ⟨rfl, hd⟩; (first | have hb := below_of hd | have hb := hd); clear hd; have Z6 := Aside0.mk (show w5.heap.size ≤ w6.heap.size from hb.size); have HB' := Aside0.mk (below_step (by repeat (first | (with_reducible first | exact HB.out | apply below_alloc | apply pw_below_drewN | apply below_drew1) | exact HB.out)) hb); clear HB; have HB := HB'; clear HB'; have H_w0' := Aside0.mk (Kd.N_below (by first | exact H_w0.out | exact Kd.N_drewN H_w0.out _) hb); have H_x0' := Aside0.mk (Kd.S_below (by first | exact H_x0.out | exact Kd.S_drewN H_x0.out _) hb); have H_g0' := Aside0.mk (Kd.S_below (by first | exact H_g0.out | exact Kd.S_drewN H_g0.out _) hb); clear H_w0; clear H_x0; clear H_g0; have H_w0 := H_w0'; clear H_w0'; have H_x0 := H_x0'; clear H_x0'; have H_g0 := H_g0'; clear H_g0'; clear E8) | (go_at_call 11; (with_reducible refine (laws_toProfileS.calls (hr0 := (Kd.C_below HR_l0.out (by repeat (first | (with_reducible first | exact HB.out | apply below_alloc | apply pw_below_drewN | apply below_drew1) | exact HB.out)))) (hc0 := HC_l0.out) (h := E11.out)).mono ?_); rintro e w7 ⟨v0_, rfl, ho0, hb⟩; have H_w0' := Aside0.mk (Kd.N_below (by first | exact H_w0.out | exact Kd.N_drewN H_w0.out _) hb); have H_x0' := Aside0.mk (Kd.S_below (by first | exact H_x0.out | exact Kd.S_drewN H_x0.out _) hb); have H_g0' := Aside0.mk (Kd.S_below (by first | exact H_g0.out | exact Kd.S_drewN H_g0.out _) hb); have H_b0 := Aside0.mk (show Kd.S _ _ w7 w.heap.size (fun k_ => w6.heap.size ≤ k_ ∧ k_ < w7.heap.size) v0_ b0 from Kd.S_mono (Kd.S_lower (Kd.S_bound ho0) HB.out.size) (fun k_ hk_ => ⟨hk_.2.1, hk_.2.2.1⟩)); obtain ⟨A_b0, c_b0, e_b0⟩ := Kd.S_slice ho0; subst e_b0; clear ho0; have Z7 := Aside0.mk (show w6.heap.size ≤ w7.heap.size from hb.size); have HB' := Aside0.mk (below_step (by repeat (first | (with_reducible first | exact HB.out | apply below_alloc | apply pw_below_drewN | apply below_drew1) | exact HB.out)) hb); clear HB; have HB := HB'; clear HB'; clear H_w0; clear H_x0; clear H_g0; have H_w0 := H_w0'; clear H_w0'; have H_x0 := H_x0'; clear H_x0'; have H_g0 := H_g0'; clear H_g0'; clear E11) | (go_at_call 13; (with_reducible refine (laws_eqProfileS.calls (hr0 := (Kd.S_reads' (by first | exact H_x0.out | exact Kd.S_drewN H_x0.out _)).2.2) (hc0 := (Kd.S_reads' H_x0.out).2.1) (hr1 := (Kd.S_reads' (by first | exact H_b0.out | exact Kd.S_drewN H_b0.out _)).2.2) (hc1 := (Kd.S_reads' H_b0.out).2.1) (h := E12.out)).mono ?_); rintro e w8 ⟨rfl, hd⟩; (first | have hb := below_of hd | have hb := hd); clear hd; have Z8 := Aside0.mk (show w7.heap.size ≤ w8.heap.size from hb.size); have HB' := Aside0.mk (below_step (by repeat (first | (with_reducible first | exact HB.out | apply below_alloc | apply pw_below_drewN | apply below_drew1) | exact HB.out)) hb); clear HB; have HB := HB'; clear HB'; have H_w0' := Aside0.mk (Kd.N_below (by first | exact H_w0.out | exact Kd.N_drewN H_w0.out _) hb); have H_x0' := Aside0.mk (Kd.S_below (by first | exact H_x0.out | exact Kd.S_drewN H_x0.out _) hb); have H_g0' := Aside0.mk (Kd.S_below (by first | exact H_g0.out | exact Kd.S_drewN H_g0.out _) hb); have H_b0' := Aside0.mk (Kd.S_below (by first | exact H_b0.out | exact Kd.S_drewN H_b0.out _) hb); clear H_w0; clear H_x0; clear H_g0; clear H_b0; have H_w0 := H_w0'; clear H_w0'; have H_x0 := H_x0'; clear H_x0'; have H_g0 := H_g0'; clear H_g0'; have H_b0 := H_b0'; clear H_b0'; clear H_b0; clear E12) | (go_at_call 18; (with_reducible refine (laws_markProfileS.calls (w0 := w) (hB := by repeat (first | (with_reducible first | exact HB.out | apply below_alloc | apply pw_below_drewN | apply below_drew1) | exact HB.out)) (ho0 := by first | exact H_x0.out | exact Kd.S_drewN H_x0.out _) (h := E14.out)).mono ?_); rintro e w9 ⟨rfl, ho, hb0, hk⟩; have hl := (Kd.S_reads' ho).1; have Z9 := Aside0.mk (show w8.heap.size ≤ w9.heap.size from hk.1); have H_w0' := Aside0.mk (Kd.N_kept (by first | exact H_w0.out | exact Kd.N_drewN H_w0.out _) hk (fun k_ h1_ h2_ => by have h1_ : w2.heap.size ≤ k_ ∧ k_ < w3.heap.size := h1_; have h2_ : w3.heap.size ≤ k_ ∧ k_ < w4.heap.size := h2_; have := Z1.out; have := Z2.out; have := Z3.out; have := Z4.out; have := Z5.out; have := Z6.out; have := Z7.out; have := Z8.out; have := Z9.out; omega)); have H_g0' := Aside0.mk (Kd.S_kept (by first | exact H_g0.out | exact Kd.S_drewN H_g0.out _) hk (fun k_ h1_ h2_ => by have h1_ : w4.heap.size ≤ k_ ∧ k_ < w5.heap.size := h1_; have h2_ : w3.heap.size ≤ k_ ∧ k_ < w4.heap.size := h2_; have := Z1.out; have := Z2.out; have := Z3.out; have := Z4.out; have := Z5.out; have := Z6.out; have := Z7.out; have := Z8.out; have := Z9.out; omega)); have HB' := Aside0.mk hb0; clear HB; have HB := HB'; clear HB' hb0 hk; rw [hl] at ho; have H_x0' := Aside0.mk (Kd.S_bound ho); rw [hl]; clear ho; clear H_w0; clear H_x0; clear H_g0; have H_w0 := H_w0'; clear H_w0'; have H_z0 := H_x0'; clear H_x0'; have H_g0 := H_g0'; clear H_g0'; clear H_z0; clear E14) | (go_at_call 13; (with_reducible refine (laws_eqProfileS.calls (hr0 := (Kd.S_reads' (by first | exact H_g0.out | exact Kd.S_drewN H_g0.out _)).2.2) (hc0 := (Kd.S_reads' H_g0.out).2.1) (hr1 := (Kd.N_reads' (by first | exact H_w0.out | exact Kd.N_drewN H_w0.out _)).2.2) (hc1 := (Kd.N_reads' H_w0.out).2.1) (h := E16.out)).mono ?_); rintro e w10 ⟨rfl, hd⟩; (first | have hb := below_of hd | have hb := hd); clear hd; have Z10 := Aside0.mk (show w9.heap.size ≤ w10.heap.size from hb.size); have HB' := Aside0.mk (below_step (by repeat (first | (with_reducible first | exact HB.out | apply below_alloc | apply pw_below_drewN | apply below_drew1) | exact HB.out)) hb); clear HB; have HB := HB'; clear HB'; have H_w0' := Aside0.mk (Kd.N_below (by first | exact H_w0.out | exact Kd.N_drewN H_w0.out _) hb); have H_g0' := Aside0.mk (Kd.S_below (by first | exact H_g0.out | exact Kd.S_drewN H_g0.out _) hb); clear H_w0; clear H_g0; have H_w0 := H_w0'; clear H_w0'; have H_g0 := H_g0'; clear H_g0'; clear E16) | (go_at_call 18; (with_reducible refine (laws_markProfileS.calls (w0 := w) (hB := by repeat (first | (with_reducible first | exact HB.out | apply below_alloc | apply pw_below_drewN | apply below_drew1) | exact HB.out)) (ho0 := by first | exact H_g0.out | exact Kd.S_drewN H_g0.out _) (h := E18.out)).mono ?_); rintro e w11 ⟨rfl, ho, hb0, hk⟩; have hl := (Kd.S_reads' ho).1; have Z11 := Aside0.mk (show w10.heap.size ≤ w11.heap.size from hk.1); have H_w0' := Aside0.mk (Kd.N_kept (by first | exact H_w0.out | exact Kd.N_drewN H_w0.out _) hk (fun k_ h1_ h2_ => by have h1_ : w2.heap.size ≤ k_ ∧ k_ < w3.heap.size := h1_; have h2_ : w4.heap.size ≤ k_ ∧ k_ < w5.heap.size := h2_; have := Z1.out; have := Z2.out; have := Z3.out; have := Z4.out; have := Z5.out; have := Z6.out; have := Z7.out; have := Z8.out; have := Z9.out; have := Z10.out; have := Z11.out; omega)); have HB' := Aside0.mk hb0; clear HB; have HB := HB'; clear HB' hb0 hk; rw [hl] at ho; have H_g0' := Aside0.mk (Kd.S_bound ho); rw [hl]; clear ho; clear H_w0; clear H_g0; have H_w0 := H_w0'; clear H_w0'; have H_e0 := H_g0'; clear H_g0'; clear E18) | (go_at_call 19; (with_reducible refine (laws_heldProfileS.calls (hr0 := (Kd.S_reads' (by first | exact H_e0.out | exact Kd.S_drewN H_e0.out _)).2.2) (hc0 := (Kd.S_reads' H_e0.out).2.1) (h := E19.out)).mono ?_); rintro e w12 ⟨rfl, hd⟩; (first | have hb := below_of hd | have hb := hd); clear hd; have Z12 := Aside0.mk (show w11.heap.size ≤ w12.heap.size from hb.size); have HB' := Aside0.mk (below_step (by repeat (first | (with_reducible first | exact HB.out | apply below_alloc | apply pw_below_drewN | apply below_drew1) | exact HB.out)) hb); clear HB; have HB := HB'; clear HB'; have H_w0' := Aside0.mk (Kd.N_below (by first | exact H_w0.out | exact Kd.N_drewN H_w0.out _) hb); have H_e0' := Aside0.mk (Kd.S_below (by first | exact H_e0.out | exact Kd.S_drewN H_e0.out _) hb); clear H_w0; clear H_e0; have H_w0 := H_w0'; clear H_w0'; have H_e0 := H_e0'; clear H_e0'; clear E19) | (go_at_call 11; (with_reducible refine (laws_toProfileS.calls (hr0 := (Kd.C_below HR_l0.out (by repeat (first | (with_reducible first | exact HB.out | apply below_alloc | apply pw_below_drewN | apply below_drew1) | exact HB.out)))) (hc0 := HC_l0.out) (h := E22.out)).mono ?_); rintro e w13 ⟨v0_, rfl, ho0, hb⟩; have H_w0' := Aside0.mk (Kd.N_below (by first | exact H_w0.out | exact Kd.N_drewN H_w0.out _) hb); have H_e0' := Aside0.mk (Kd.S_below (by first | exact H_e0.out | exact Kd.S_drewN H_e0.out _) hb); have H_c0 := Aside0.mk (show Kd.S _ _ w13 w.heap.size (fun k_ => w12.heap.size ≤ k_ ∧ k_ < w13.heap.size) v0_ c0 from Kd.S_mono (Kd.S_lower (Kd.S_bound ho0) HB.out.size) (fun k_ hk_ => ⟨hk_.2.1, hk_.2.2.1⟩)); obtain ⟨A_c0, c_c0, e_c0⟩ := Kd.S_slice ho0; subst e_c0; clear ho0; have Z13 := Aside0.mk (show w12.heap.size ≤ w13.heap.size from hb.size); have HB' := Aside0.mk (below_step (by repeat (first | (with_reducible first | exact HB.out | apply below_alloc | apply pw_below_drewN | apply below_drew1) | exact HB.out)) hb); clear HB; have HB := HB'; clear HB'; clear H_w0; clear H_e0; have H_w0 := H_w0'; clear H_w0'; have H_e0 := H_e0'; clear H_e0'; clear E22) | (go_at_call 23; (with_reducible refine (impl_Switch.calls (hr0 := (Kd.S_reads' (by first | exact H_c0.out | exact Kd.S_drewN H_c0.out _)).2.2) (hc0 := (Kd.S_reads' H_c0.out).2.1) (h := E23.out)).mono ?_); rintro e w14 ⟨v0_, rfl, ho0, hb⟩; have H_w0' := Aside0.mk (Kd.N_below (by first | exact H_w0.out | exact Kd.N_drewN H_w0.out _) hb); have H_e0' := Aside0.mk (Kd.S_below (by first | exact H_e0.out | exact Kd.S_drewN H_e0.out _) hb); have H_c0' := Aside0.mk (Kd.S_below (by first | exact H_c0.out | exact Kd.S_drewN H_c0.out _) hb); have H_h0 := Aside0.mk (show Kd.S _ _ w14 w.heap.size (fun k_ => w13.heap.size ≤ k_ ∧ k_ < w14.heap.size) v0_ h0 from Kd.S_mono (Kd.S_lower (Kd.S_bound ho0) HB.out.size) (fun k_ hk_ => ⟨hk_.2.1, hk_.2.2.1⟩)); obtain ⟨A_h0, c_h0, e_h0⟩ := Kd.S_slice ho0; subst e_h0; clear ho0; have Z14 := Aside0.mk (show w13.heap.size ≤ w14.heap.size from hb.size); have HB' := Aside0.mk (below_step (by repeat (first | (with_reducible first | exact HB.out | apply below_alloc | apply pw_below_drewN | apply below_drew1) | exact HB.out)) hb); clear HB; have HB := HB'; clear HB'; clear H_w0; clear H_e0; clear H_c0; have H_w0 := H_w0'; clear H_w0'; have H_e0 := H_e0'; clear H_e0'; have H_c0 := H_c0'; clear H_c0'; clear H_c0; clear E23) | (go_at_call 13; (with_reducible refine (laws_eqProfileS.calls (hr0 := (Kd.S_reads' (by first | exact H_h0.out | exact Kd.S_drewN H_h0.out _)).2.2) (hc0 := (Kd.S_reads' H_h0.out).2.1) (hr1 := (Kd.N_reads' (by first | exact H_w0.out | exact Kd.N_drewN H_w0.out _)).2.2) (hc1 := (Kd.N_reads' H_w0.out).2.1) (h := E24.out)).mono ?_); rintro e w15 ⟨rfl, hd⟩; (first | have hb := below_of hd | have hb := hd); clear hd; have Z15 := Aside0.mk (show w14.heap.size ≤ w15.heap.size from hb.size); have HB' := Aside0.mk (below_step (by repeat (first | (with_reducible first | exact HB.out | apply below_alloc | apply pw_below_drewN | apply below_drew1) | exact HB.out)) hb); clear HB; have HB := HB'; clear HB'; have H_w0' := Aside0.mk (Kd.N_below (by first | exact H_w0.out | exact Kd.N_drewN H_w0.out _) hb); have H_e0' := Aside0.mk (Kd.S_below (by first | exact H_e0.out | exact Kd.S_drewN H_e0.out _) hb); have H_h0' := Aside0.mk (Kd.S_below (by first | exact H_h0.out | exact Kd.S_drewN H_h0.out _) hb); clear H_w0; clear H_e0; clear H_h0; have H_w0 := H_w0'; clear H_w0'; have H_e0 := H_e0'; clear H_e0'; have H_h0 := H_h0'; clear H_h0'; clear H_w0; clear H_h0; clear E24) | (go_at_call 19; (with_reducible refine (laws_heldProfileS.calls (hr0 := (Kd.S_reads' (by first | exact H_e0.out | exact Kd.S_drewN H_e0.out _)).2.2) (hc0 := (Kd.S_reads' H_e0.out).2.1) (h := E27.out)).mono ?_); rintro e w16 ⟨rfl, hd⟩; (first | have hb := below_of hd | have hb := hd); clear hd; have Z16 := Aside0.mk (show w15.heap.size ≤ w16.heap.size from hb.size); have HB' := Aside0.mk (below_step (by repeat (first | (with_reducible first | exact HB.out | apply below_alloc | apply pw_below_drewN | apply below_drew1) | exact HB.out)) hb); clear HB; have HB := HB'; clear HB'; have H_e0' := Aside0.mk (Kd.S_below (by first | exact H_e0.out | exact Kd.S_drewN H_e0.out _) hb); clear H_e0; have H_e0 := H_e0'; clear H_e0'; clear H_e0; clear E27))
  go_ret
  exact ⟨rfl, by repeat (first | (with_reducible first | exact HB.out | apply below_alloc | apply pw_below_drewN | apply below_drew1) | exact HB.out)⟩

/-- THE ONE PURE STATEMENT of laws_FnExactSwitch: yours. -/
def laws_FnExactSwitch.Pure : Prop := ∀ (l0 : List (S49)) (a1 : ByteArray) (a2 : ByteArray), (l0.length ≤ maxLen ∧ ∀ y0 ∈ l0, (y0.f0.size ≤ maxLen ∧ (Lit.int .i64 y0.f1).wf = true ∧ (y0.f2.length ≤ maxLen ∧ ∀ y1 ∈ y0.f2, ((Lit.int .i64 y1.f0).wf = true ∧ y1.f1.size ≤ maxLen)))) → a1.size ≤ maxLen → a2.size ≤ maxLen → ∃ k, laws_FnExactSwitch.f k l0 a1 a2 = some true
theorem laws_FnExactSwitch.walk (P : laws_FnExactSwitch.Pure) (A0 : Option Addr) (c0 : Nat) (l0 : List (S49)) (a1 : ByteArray) (a2 : ByteArray) (w : World) (hr0 : Kd.C k49 w A0 l0.length l0) (hc0 : l0.length ≤ c0) (ok0 : (l0.length ≤ maxLen ∧ ∀ y0 ∈ l0, (y0.f0.size ≤ maxLen ∧ (Lit.int .i64 y0.f1).wf = true ∧ (y0.f2.length ≤ maxLen ∧ ∀ y1 ∈ y0.f2, ((Lit.int .i64 y1.f0).wf = true ∧ y1.f1.size ≤ maxLen))))) (ok1 : a1.size ≤ maxLen) (ok2 : a2.size ≤ maxLen) :
    Calls Try.prog 7 #[.slice A0 l0.length c0, .string a1, .string a2] w fun e w' => e = .returned (.bool true) ∧ Below w.heap.size w w' := by
  obtain ⟨k, h⟩ := P l0 a1 a2 ok0 ok1 ok2
  refine (laws_FnExactSwitch.calls k _ _ l0 a1 a2 true w hr0 hc0 h).mono ?_
  rintro e w' ⟨rfl, hd⟩
  exact ⟨rfl, hd⟩
end Go.Proofs.Ytbgnjnlecpdfaaa.PFnExactSwitch
