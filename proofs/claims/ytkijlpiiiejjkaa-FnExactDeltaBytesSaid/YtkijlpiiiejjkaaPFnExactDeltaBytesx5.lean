-- Laid by a program of this session: a turned copy of the kit's print, with contracts by hand beside.
import Derived.Test.YtkijlpiiiejjkaaPFnExactDeltaBytesx0
import Derived.Test.YtkijlpiiiejjkaaPFnExactDeltaBytesx1
import Derived.Test.YtkijlpiiiejjkaaPFnExactDeltaBytesx2
import Derived.Test.YtkijlpiiiejjkaaPFnExactDeltaBytesx3
import Derived.Test.YtkijlpiiiejjkaaPFnExactDeltaBytesx4
namespace Go.Proofs.Ytkijlpiiiejjkaa.PFnExactDeltaBytes
open Go.RowKit Go.Proofs.YtkijlpiiiejjkaaW.PrintWords Go.Proofs.YtkijlpiiiejjkaaW.PrintLast Go.Proofs.YtkijlpiiiejjkaaW.PrintMore
attribute [local go_sem] max2_int min2_int max_two min_two max_three min_three max_four min_four   -- for this text's walks alone
set_option linter.unusedVariables false
set_option linter.unusedSimpArgs false

/-! ### laws_FnExactDeltaBytes: function 6 -/
set_option maxHeartbeats 8000000 in
set_option maxRecDepth 100000 in
theorem laws_markByteS.callsM (k : Nat) (P0_ : Nat → Prop) (u9000_ : Value) (l0 : List Int) (a1 : Int) (r1 : Int) (r2 : List Int) (w0 w : World) (hB : Below w0.heap.size w0 w) (ho0 : Kd.RM 5 w w0.heap.size P0_ u9000_ l0) (h : laws_markByteS.f k l0 a1 = some (r1, r2)) :
    Calls Try.prog 19 #[u9000_, .int .i64 a1] w fun e w' => e = .returned (.int .i64 r1) ∧ Kd.RM 5 w' w0.heap.size (fun k_ => (P0_ k_ ∨ w.heap.size ≤ k_)) u9000_ r2 ∧ Below w0.heap.size w0 w' ∧ Kept w w' (fun k_ => P0_ k_) := by
  have HO0 := Aside0.mk (show Kd.RM 5 w w0.heap.size (fun k_ => (P0_ k_ ∨ w.heap.size ≤ k_)) u9000_ l0 from Kd.RM_mono ho0 (fun k_ hk => (.inl hk)))
  have HK := Aside0.mk (Kept.refl w (fun k_ => P0_ k_))
  have HB := Aside0.mk hB
  clear hB
  have H' := Aside0.mk (show laws_markByteS.l0 k l0 a1 0 = some (r1, r2) from h)
  clear h
  go_enter Try.func19, Try.ntmps19
  go_wp2
  go_loopg [1, 5] k (fun kq v1 v5 w' => ∃ (x0_1 : List Int) (x1_1 : Int) (x5_1 : Int), v1 = .int .i64 x1_1 ∧ v5 = .int .i64 x5_1 ∧ Aside0 (laws_markByteS.l0 kq x0_1 x1_1 x5_1 = some (r1, r2)) ∧ Aside0 (kq ≤ k) ∧ Aside0 (Kd.RM 5 w' w0.heap.size (fun k_ => (P0_ k_ ∨ w.heap.size ≤ k_)) u9000_ x0_1) ∧ Aside0 (Kept w w' (fun k_ => P0_ k_)) ∧ Aside0 (Below w0.heap.size w0 w'))
  case atStart => exact ⟨l0, a1, 0, rfl, rfl, H', ⟨Nat.le_refl _⟩, ⟨by (with_reducible repeat (first | apply Kd.RM_alloc | apply Kd.RM_drewN | apply Kd.RM_drew)); exact HO0.out⟩, ⟨by repeat (first | (with_reducible first | exact HK.out | apply Kept.alloc | apply Kept.drewN | apply Kept.drew) | exact HK.out)⟩, ⟨by repeat (first | (with_reducible first | exact HB.out | apply below_alloc | apply pw_below_drewN | apply below_drew1) | exact HB.out)⟩⟩
  case round =>
    clear H' ho0 HO0 HB HK
    obtain ⟨x0_1, x1_1, x5_1, rfl, rfl, HA, HK1, HO_0, HK, HB⟩ := hrel
    cases gk with
    | zero => exact absurd HA.out (by simp [laws_markByteS.l0])
    | succ k1 =>
      have H := HA.out
      clear HA
      simp only [laws_markByteS.l0] at H
      by_cases c3 : x5_1 < (x0_1.length : Int)
      · rw [if_pos c3] at H
        have c3b0 : decide (x5_1 < (x0_1.length : Int)) = true := decide_eq_true c3
        by_cases c4 : 0 ≤ x5_1
        · rw [if_pos c4] at H
          have c4b0 : decide (0 ≤ x5_1) = true := decide_eq_true c4
          have H' := Aside0.mk H
          clear H
          obtain ⟨go5, co5, eo5, gb5, gok, hx_0, hf_0, hput⟩ := Kd.RM_open HO_0.out (x5_1 : Int) c4 c3
          subst eo5
          have GB5 := Aside0.mk gb5
          have HMgo5 := Aside0.mk gok
          have HP := Aside0.mk (hput ((x1_1) % 256))
          clear gb5 gok hput
          have c4b1 := eq_true c4
          have c3b1 := eq_true c3
          clear c3 c4 HO_0
          go_wp2_with (first | ((with_reducible refine gate_store (t := 5) (p := 16) rfl ?_); refine store_event (t := 5) (p := 16) (v := ?vo_w8) (w1 := (wr.setCell ⟨go5, (x5_1 : Int).toNat, none⟩ (.int .u8 ((x1_1) % 256)))) ?hg ?ho ?hn ?hr ?_; (case ho => rfl); (case hg => rfl); (case hn => rfl); (case hr => first | (go_simp; done) | (go_simp; rfl)); intro w8 hw; have hg : wr.grownBy w8 (some go5) := (by rw [hw]; exact HP.out.2); have n0_ := Aside0.mk (show Kd.RM 5 w8 w0.heap.size (fun k_ => (P0_ k_ ∨ w.heap.size ≤ k_)) _ (x0_1.set (x5_1 : Int).toNat ((x1_1) % 256)) from (by rw [hw]; exact HP.out.1)); have n1_ := Aside0.mk ((by rw [hw]; exact below_set (by repeat (first | (with_reducible first | exact HB.out | apply below_alloc | apply pw_below_drewN | apply below_drew1) | exact HB.out)) GB5.out : Below w0.heap.size w0 w8)); have n2_ := Aside0.mk (Kept.of_grown (S := (fun k_ => P0_ k_)) hg (by repeat (first | (with_reducible first | exact HK.out | apply Kept.alloc | apply Kept.drewN | apply Kept.drew) | exact HK.out)) (fun k_ e_ => by injection e_ with e_; subst e_; exact HMgo5.out)); clear HB HK HP hg hw; have HO_0 := n0_; have HB := n1_; have HK := n2_; clear n0_ n1_ n2_))
          go_roundg k1
          case measure => have := HK1.out; omega
          case rel => exact ⟨_, _, _, rfl, rfl, H', ⟨by have := HK1.out; omega⟩, ⟨by (with_reducible repeat (first | apply Kd.RM_alloc | apply Kd.RM_drewN | apply Kd.RM_drew)); exact HO_0.out⟩, ⟨by repeat (first | (with_reducible first | exact HK.out | apply Kept.alloc | apply Kept.drewN | apply Kept.drew) | exact HK.out)⟩, ⟨by repeat (first | (with_reducible first | exact HB.out | apply below_alloc | apply pw_below_drewN | apply below_drew1) | exact HB.out)⟩⟩
        · rw [if_neg c4] at H
          exact absurd H (by simp)
      · rw [if_neg c3] at H
        have c3b0 : decide (x5_1 < (x0_1.length : Int)) = false := decide_eq_false c3
        clear c3
        simp only [Option.some.injEq, Prod.mk.injEq] at H
        obtain ⟨rfl, rfl⟩ := H
        obtain ⟨Ao14, co14, eo14⟩ := Kd.RM_slice HO_0.out
        subst eo14
        go_wp2
        go_ret
        exact ⟨rfl, by (with_reducible repeat (first | apply Kd.RM_alloc | apply Kd.RM_drewN | apply Kd.RM_drew)); exact HO_0.out, by repeat (first | (with_reducible first | exact HB.out | apply below_alloc | apply pw_below_drewN | apply below_drew1) | exact HB.out), by repeat (first | (with_reducible first | exact HK.out | apply Kept.alloc | apply Kept.drewN | apply Kept.drew) | exact HK.out)⟩
def laws_FnExactDeltaBytes.f (k : Nat) (l0 : List (S65)) : Option Bool := (laws_szStepS.f k l0 1048576).bind fun t0 => (if t0 < 0 then some true else ((laws_toStepS.f k l0).bind fun a0 => ((spec_DeltaBytes.f k a0).bind fun w0 => ((laws_toStepS.f k l0).bind fun y0 => ((impl_DeltaBytes.f k y0).bind fun g0 => ((laws_eqByteS.f k g0 w0).bind fun t1 => (if t1 = true then ((laws_toStepS.f k l0).bind fun b0 => ((laws_eqStepS.f k y0 b0).bind fun t3 => (if t3 = true then ((laws_markStepS.f k y0 1).bind fun ⟨k1, z0⟩ => (if k1 < 0 then none else ((laws_eqByteS.f k g0 w0).bind fun s1 => (if s1 = true then ((laws_markByteS.f k g0 1).bind fun ⟨m1, e0⟩ => ((laws_heldByteS.f k e0 1).bind fun q1 => (if q1 < 0 then none else (if m1 = q1 then ((laws_toStepS.f k l0).bind fun d0 => ((impl_DeltaBytes.f k d0).bind fun h0 => ((laws_eqByteS.f k h0 w0).bind fun s2 => (if s2 = true then ((laws_heldByteS.f k e0 1).bind fun q2 => (if m1 = q2 then (some true) else none)) else none)))) else none)))) else none)))) else none))) else none)))))))
set_option maxHeartbeats 8000000 in
set_option maxRecDepth 100000 in
theorem laws_FnExactDeltaBytes.calls (k : Nat) (Al0 : Option Addr) (cl0 : Nat) (l0 : List (S65)) (r : Bool) (w : World) (hrl0 : Kd.C k65 w Al0 l0.length l0) (hcl0 : l0.length ≤ cl0) (h : laws_FnExactDeltaBytes.f k l0 = some r) :
    Calls Try.prog 6 #[.slice Al0 l0.length cl0] w fun e w' => e = .returned (.bool r) ∧ Below w.heap.size w w' := by
  have HR_l0 := Aside0.mk hrl0
  have HC_l0 := Aside0.mk hcl0
  clear hrl0 hcl0
  have HB := Aside0.mk (Below.refl w.heap.size w)
  unfold laws_FnExactDeltaBytes.f at h
  replace h := Option.bind_eq_some_iff.mp h
  obtain ⟨t0, EE, h⟩ := h
  have E0 := Aside0.mk EE
  clear EE
  try dsimp only at h
  by_cases C1 : t0 < 0
  · rw [if_pos C1] at h
    have C1a : decide (t0 < 0) = true := decide_eq_true C1
    clear C1
    obtain rfl := Option.some.inj h
    clear h
    go_enter Try.func6, Try.ntmps6
    go_wp2_with (first | (go_at_call 24; (with_reducible refine (laws_szStepS.calls (hr0 := (Kd.C_below HR_l0.out (by repeat (first | (with_reducible first | exact HB.out | apply below_alloc | apply pw_below_drewN | apply below_drew1) | exact HB.out)))) (hc0 := HC_l0.out) (h := E0.out)).mono ?_); rintro e w1 ⟨rfl, hd⟩; (first | have hb := below_of hd | have hb := hd); clear hd; have Z1 := Aside0.mk (show w.heap.size ≤ w1.heap.size from hb.size); have HB' := Aside0.mk (below_step (by repeat (first | (with_reducible first | exact HB.out | apply below_alloc | apply pw_below_drewN | apply below_drew1) | exact HB.out)) hb); clear HB; have HB := HB'; clear HB'; clear E0))
    go_ret
    exact ⟨rfl, by repeat (first | (with_reducible first | exact HB.out | apply below_alloc | apply pw_below_drewN | apply below_drew1) | exact HB.out)⟩
  rw [if_neg C1] at h
  have C1a : decide (t0 < 0) = false := decide_eq_false C1
  clear C1
  replace h := Option.bind_eq_some_iff.mp h
  obtain ⟨a0, EE, h⟩ := h
  have E2 := Aside0.mk EE
  clear EE
  try dsimp only at h
  replace h := Option.bind_eq_some_iff.mp h
  obtain ⟨w0, EE, h⟩ := h
  have E3 := Aside0.mk EE
  clear EE
  try dsimp only at h
  replace h := Option.bind_eq_some_iff.mp h
  obtain ⟨y0, EE, h⟩ := h
  have E4 := Aside0.mk EE
  clear EE
  try dsimp only at h
  replace h := Option.bind_eq_some_iff.mp h
  obtain ⟨g0, EE, h⟩ := h
  have E5 := Aside0.mk EE
  clear EE
  try dsimp only at h
  replace h := Option.bind_eq_some_iff.mp h
  obtain ⟨t1, EE, h⟩ := h
  have E6 := Aside0.mk EE
  clear EE
  try dsimp only at h
  by_cases C7 : ¬ (t1 = true)
  · rw [if_neg C7] at h; exact absurd h (by simp)
  replace C7 := Classical.not_not.mp C7
  rw [if_pos C7] at h
  subst C7
  replace h := Option.bind_eq_some_iff.mp h
  obtain ⟨b0, EE, h⟩ := h
  have E8 := Aside0.mk EE
  clear EE
  try dsimp only at h
  replace h := Option.bind_eq_some_iff.mp h
  obtain ⟨t3, EE, h⟩ := h
  have E9 := Aside0.mk EE
  clear EE
  try dsimp only at h
  by_cases C10 : ¬ (t3 = true)
  · rw [if_neg C10] at h; exact absurd h (by simp)
  replace C10 := Classical.not_not.mp C10
  rw [if_pos C10] at h
  subst C10
  replace h := Option.bind_eq_some_iff.mp h
  obtain ⟨⟨k1, z0⟩, EE, h⟩ := h
  have E11 := Aside0.mk EE
  clear EE
  try dsimp only at h
  by_cases C12 : k1 < 0
  · rw [if_pos C12] at h; exact absurd h (by simp)
  rw [if_neg C12] at h
  have C12a : decide (k1 < 0) = false := decide_eq_false C12
  clear C12
  replace h := Option.bind_eq_some_iff.mp h
  obtain ⟨s1, EE, h⟩ := h
  have E13 := Aside0.mk EE
  clear EE
  try dsimp only at h
  by_cases C14 : ¬ (s1 = true)
  · rw [if_neg C14] at h; exact absurd h (by simp)
  replace C14 := Classical.not_not.mp C14
  rw [if_pos C14] at h
  subst C14
  replace h := Option.bind_eq_some_iff.mp h
  obtain ⟨⟨m1, e0⟩, EE, h⟩ := h
  have E15 := Aside0.mk EE
  clear EE
  try dsimp only at h
  replace h := Option.bind_eq_some_iff.mp h
  obtain ⟨q1, EE, h⟩ := h
  have E16 := Aside0.mk EE
  clear EE
  try dsimp only at h
  by_cases C17 : q1 < 0
  · rw [if_pos C17] at h; exact absurd h (by simp)
  rw [if_neg C17] at h
  have C17a : decide (q1 < 0) = false := decide_eq_false C17
  clear C17
  by_cases C18 : ¬ (m1 = q1)
  · rw [if_neg C18] at h; exact absurd h (by simp)
  replace C18 := Classical.not_not.mp C18
  rw [if_pos C18] at h
  subst C18
  have C18a : (m1 != m1) = false := by simp
  have C18b : (m1 == m1) = true := by simp
  replace h := Option.bind_eq_some_iff.mp h
  obtain ⟨d0, EE, h⟩ := h
  have E19 := Aside0.mk EE
  clear EE
  try dsimp only at h
  replace h := Option.bind_eq_some_iff.mp h
  obtain ⟨h0, EE, h⟩ := h
  have E20 := Aside0.mk EE
  clear EE
  try dsimp only at h
  replace h := Option.bind_eq_some_iff.mp h
  obtain ⟨s2, EE, h⟩ := h
  have E21 := Aside0.mk EE
  clear EE
  try dsimp only at h
  by_cases C22 : ¬ (s2 = true)
  · rw [if_neg C22] at h; exact absurd h (by simp)
  replace C22 := Classical.not_not.mp C22
  rw [if_pos C22] at h
  subst C22
  replace h := Option.bind_eq_some_iff.mp h
  obtain ⟨q2, EE, h⟩ := h
  have E23 := Aside0.mk EE
  clear EE
  try dsimp only at h
  by_cases C24 : ¬ (m1 = q2)
  · rw [if_neg C24] at h; exact absurd h (by simp)
  replace C24 := Classical.not_not.mp C24
  rw [if_pos C24] at h
  subst C24
  have C24a : (m1 != m1) = false := by simp
  have C24b : (m1 == m1) = true := by simp
  obtain rfl := Option.some.inj h
  clear h
  go_enter Try.func6, Try.ntmps6
  go_wp2_with (first | (go_at_call 24; (with_reducible refine (laws_szStepS.calls (hr0 := (Kd.C_below HR_l0.out (by repeat (first | (with_reducible first | exact HB.out | apply below_alloc | apply pw_below_drewN | apply below_drew1) | exact HB.out)))) (hc0 := HC_l0.out) (h := E0.out)).mono ?_); rintro e w1 ⟨rfl, hd⟩; (first | have hb := below_of hd | have hb := hd); clear hd; have Z1 := Aside0.mk (show w.heap.size ≤ w1.heap.size from hb.size); have HB' := Aside0.mk (below_step (by repeat (first | (with_reducible first | exact HB.out | apply below_alloc | apply pw_below_drewN | apply below_drew1) | exact HB.out)) hb); clear HB; have HB := HB'; clear HB'; clear E0) | (go_at_call 26; (with_reducible refine (laws_toStepS.calls (hr0 := (Kd.C_below HR_l0.out (by repeat (first | (with_reducible first | exact HB.out | apply below_alloc | apply pw_below_drewN | apply below_drew1) | exact HB.out)))) (hc0 := HC_l0.out) (h := E2.out)).mono ?_); rintro e w2 ⟨v0_, rfl, ho0, hb⟩; have H_a0 := Aside0.mk (show Kd.S _ _ w2 w.heap.size (fun k_ => w1.heap.size ≤ k_ ∧ k_ < w2.heap.size) v0_ a0 from Kd.S_mono (Kd.S_lower (Kd.S_bound ho0) HB.out.size) (fun k_ hk_ => ⟨hk_.2.1, hk_.2.2.1⟩)); obtain ⟨A_a0, c_a0, e_a0⟩ := Kd.S_slice ho0; subst e_a0; clear ho0; have Z2 := Aside0.mk (show w1.heap.size ≤ w2.heap.size from hb.size); have HB' := Aside0.mk (below_step (by repeat (first | (with_reducible first | exact HB.out | apply below_alloc | apply pw_below_drewN | apply below_drew1) | exact HB.out)) hb); clear HB; have HB := HB'; clear HB'; clear E2) | (go_at_call 29; (with_reducible refine (spec_DeltaBytes.callsM (hr0 := (Kd.S_reads' (by first | exact H_a0.out | exact Kd.S_drewN H_a0.out _)).2.2) (hc0 := (Kd.S_reads' H_a0.out).2.1) (h := E3.out)).mono ?_); rintro e w3 ⟨v0_, rfl, ho0, hb⟩; have H_a0' := Aside0.mk (Kd.S_below (by first | exact H_a0.out | exact Kd.S_drewN H_a0.out _) hb); have H_w0 := Aside0.mk (show Kd.RM _ w3 w.heap.size (fun k_ => w2.heap.size ≤ k_ ∧ k_ < w3.heap.size) v0_ w0 from Kd.RM_mono (Kd.RM_lower (Kd.RM_bound ho0) HB.out.size) (fun k_ hk_ => ⟨hk_.2.1, hk_.2.2.1⟩)); obtain ⟨A_w0, c_w0, e_w0⟩ := Kd.RM_slice ho0; subst e_w0; clear ho0; have Z3 := Aside0.mk (show w2.heap.size ≤ w3.heap.size from hb.size); have HB' := Aside0.mk (below_step (by repeat (first | (with_reducible first | exact HB.out | apply below_alloc | apply pw_below_drewN | apply below_drew1) | exact HB.out)) hb); clear HB; have HB := HB'; clear HB'; clear H_a0; have H_a0 := H_a0'; clear H_a0'; clear H_a0; clear E3) | (go_at_call 26; (with_reducible refine (laws_toStepS.calls (hr0 := (Kd.C_below HR_l0.out (by repeat (first | (with_reducible first | exact HB.out | apply below_alloc | apply pw_below_drewN | apply below_drew1) | exact HB.out)))) (hc0 := HC_l0.out) (h := E4.out)).mono ?_); rintro e w4 ⟨v0_, rfl, ho0, hb⟩; have H_w0' := Aside0.mk (Kd.RM_below (by first | exact H_w0.out | exact Kd.RM_drewN H_w0.out _) hb); have H_y0 := Aside0.mk (show Kd.S _ _ w4 w.heap.size (fun k_ => w3.heap.size ≤ k_ ∧ k_ < w4.heap.size) v0_ y0 from Kd.S_mono (Kd.S_lower (Kd.S_bound ho0) HB.out.size) (fun k_ hk_ => ⟨hk_.2.1, hk_.2.2.1⟩)); obtain ⟨A_y0, c_y0, e_y0⟩ := Kd.S_slice ho0; subst e_y0; clear ho0; have Z4 := Aside0.mk (show w3.heap.size ≤ w4.heap.size from hb.size); have HB' := Aside0.mk (below_step (by repeat (first | (with_reducible first | exact HB.out | apply below_alloc | apply pw_below_drewN | apply below_drew1) | exact HB.out)) hb); clear HB; have HB := HB'; clear HB'; clear H_w0; have H_w0 := H_w0'; clear H_w0'; clear E4) | (go_at_call 30; (with_reducible refine (impl_DeltaBytes.callsM (hr0 := (Kd.S_reads' (by first | exact H_y0.out | exact Kd.S_drewN H_y0.out _)).2.2) (hc0 := (Kd.S_reads' H_y0.out).2.1) (h := E5.out)).mono ?_); rintro e w5 ⟨v0_, rfl, ho0, hb⟩; have H_w0' := Aside0.mk (Kd.RM_below (by first | exact H_w0.out | exact Kd.RM_drewN H_w0.out _) hb); have H_y0' := Aside0.mk (Kd.S_below (by first | exact H_y0.out | exact Kd.S_drewN H_y0.out _) hb); have H_g0 := Aside0.mk (show Kd.RM _ w5 w.heap.size (fun k_ => w4.heap.size ≤ k_ ∧ k_ < w5.heap.size) v0_ g0 from Kd.RM_mono (Kd.RM_lower (Kd.RM_bound ho0) HB.out.size) (fun k_ hk_ => ⟨hk_.2.1, hk_.2.2.1⟩)); obtain ⟨A_g0, c_g0, e_g0⟩ := Kd.RM_slice ho0; subst e_g0; clear ho0; have Z5 := Aside0.mk (show w4.heap.size ≤ w5.heap.size from hb.size); have HB' := Aside0.mk (below_step (by repeat (first | (with_reducible first | exact HB.out | apply below_alloc | apply pw_below_drewN | apply below_drew1) | exact HB.out)) hb); clear HB; have HB := HB'; clear HB'; clear H_w0; clear H_y0; have H_w0 := H_w0'; clear H_w0'; have H_y0 := H_y0'; clear H_y0'; clear E5) | (go_at_call 18; (with_reducible refine (laws_eqByteS.calls (hr0 := (Kd.RM_reads' (by first | exact H_g0.out | exact Kd.RM_drewN H_g0.out _)).2.2) (hc0 := (Kd.RM_reads' H_g0.out).2.1) (hr1 := (Kd.RM_reads' (by first | exact H_w0.out | exact Kd.RM_drewN H_w0.out _)).2.2) (hc1 := (Kd.RM_reads' H_w0.out).2.1) (h := E6.out)).mono ?_); rintro e w6 ⟨rfl, hd⟩; (first | have hb := below_of hd | have hb := hd); clear hd; have Z6 := Aside0.mk (show w5.heap.size ≤ w6.heap.size from hb.size); have HB' := Aside0.mk (below_step (by repeat (first | (with_reducible first | exact HB.out | apply below_alloc | apply pw_below_drewN | apply below_drew1) | exact HB.out)) hb); clear HB; have HB := HB'; clear HB'; have H_w0' := Aside0.mk (Kd.RM_below (by first | exact H_w0.out | exact Kd.RM_drewN H_w0.out _) hb); have H_y0' := Aside0.mk (Kd.S_below (by first | exact H_y0.out | exact Kd.S_drewN H_y0.out _) hb); have H_g0' := Aside0.mk (Kd.RM_below (by first | exact H_g0.out | exact Kd.RM_drewN H_g0.out _) hb); clear H_w0; clear H_y0; clear H_g0; have H_w0 := H_w0'; clear H_w0'; have H_y0 := H_y0'; clear H_y0'; have H_g0 := H_g0'; clear H_g0'; clear E6) | (go_at_call 26; (with_reducible refine (laws_toStepS.calls (hr0 := (Kd.C_below HR_l0.out (by repeat (first | (with_reducible first | exact HB.out | apply below_alloc | apply pw_below_drewN | apply below_drew1) | exact HB.out)))) (hc0 := HC_l0.out) (h := E8.out)).mono ?_); rintro e w7 ⟨v0_, rfl, ho0, hb⟩; have H_w0' := Aside0.mk (Kd.RM_below (by first | exact H_w0.out | exact Kd.RM_drewN H_w0.out _) hb); have H_y0' := Aside0.mk (Kd.S_below (by first | exact H_y0.out | exact Kd.S_drewN H_y0.out _) hb); have H_g0' := Aside0.mk (Kd.RM_below (by first | exact H_g0.out | exact Kd.RM_drewN H_g0.out _) hb); have H_b0 := Aside0.mk (show Kd.S _ _ w7 w.heap.size (fun k_ => w6.heap.size ≤ k_ ∧ k_ < w7.heap.size) v0_ b0 from Kd.S_mono (Kd.S_lower (Kd.S_bound ho0) HB.out.size) (fun k_ hk_ => ⟨hk_.2.1, hk_.2.2.1⟩)); obtain ⟨A_b0, c_b0, e_b0⟩ := Kd.S_slice ho0; subst e_b0; clear ho0; have Z7 := Aside0.mk (show w6.heap.size ≤ w7.heap.size from hb.size); have HB' := Aside0.mk (below_step (by repeat (first | (with_reducible first | exact HB.out | apply below_alloc | apply pw_below_drewN | apply below_drew1) | exact HB.out)) hb); clear HB; have HB := HB'; clear HB'; clear H_w0; clear H_y0; clear H_g0; have H_w0 := H_w0'; clear H_w0'; have H_y0 := H_y0'; clear H_y0'; have H_g0 := H_g0'; clear H_g0'; clear E8) | (go_at_call 17; (with_reducible refine (laws_eqStepS.calls (hr0 := (Kd.S_reads' (by first | exact H_y0.out | exact Kd.S_drewN H_y0.out _)).2.2) (hc0 := (Kd.S_reads' H_y0.out).2.1) (hr1 := (Kd.S_reads' (by first | exact H_b0.out | exact Kd.S_drewN H_b0.out _)).2.2) (hc1 := (Kd.S_reads' H_b0.out).2.1) (h := E9.out)).mono ?_); rintro e w8 ⟨rfl, hd⟩; (first | have hb := below_of hd | have hb := hd); clear hd; have Z8 := Aside0.mk (show w7.heap.size ≤ w8.heap.size from hb.size); have HB' := Aside0.mk (below_step (by repeat (first | (with_reducible first | exact HB.out | apply below_alloc | apply pw_below_drewN | apply below_drew1) | exact HB.out)) hb); clear HB; have HB := HB'; clear HB'; have H_w0' := Aside0.mk (Kd.RM_below (by first | exact H_w0.out | exact Kd.RM_drewN H_w0.out _) hb); have H_y0' := Aside0.mk (Kd.S_below (by first | exact H_y0.out | exact Kd.S_drewN H_y0.out _) hb); have H_g0' := Aside0.mk (Kd.RM_below (by first | exact H_g0.out | exact Kd.RM_drewN H_g0.out _) hb); have H_b0' := Aside0.mk (Kd.S_below (by first | exact H_b0.out | exact Kd.S_drewN H_b0.out _) hb); clear H_w0; clear H_y0; clear H_g0; clear H_b0; have H_w0 := H_w0'; clear H_w0'; have H_y0 := H_y0'; clear H_y0'; have H_g0 := H_g0'; clear H_g0'; have H_b0 := H_b0'; clear H_b0'; clear H_b0; clear E9) | (go_at_call 20; (with_reducible refine (laws_markStepS.calls (w0 := w) (hB := by repeat (first | (with_reducible first | exact HB.out | apply below_alloc | apply pw_below_drewN | apply below_drew1) | exact HB.out)) (ho0 := by first | exact H_y0.out | exact Kd.S_drewN H_y0.out _) (h := E11.out)).mono ?_); rintro e w9 ⟨rfl, ho, hb0, hk⟩; have hl := (Kd.S_reads' ho).1; have Z9 := Aside0.mk (show w8.heap.size ≤ w9.heap.size from hk.1); have H_w0' := Aside0.mk (Kd.RM_kept (by first | exact H_w0.out | exact Kd.RM_drewN H_w0.out _) hk (fun k_ h1_ h2_ => by have h1_ : w2.heap.size ≤ k_ ∧ k_ < w3.heap.size := h1_; have h2_ : w3.heap.size ≤ k_ ∧ k_ < w4.heap.size := h2_; have := Z1.out; have := Z2.out; have := Z3.out; have := Z4.out; have := Z5.out; have := Z6.out; have := Z7.out; have := Z8.out; have := Z9.out; omega)); have H_g0' := Aside0.mk (Kd.RM_kept (by first | exact H_g0.out | exact Kd.RM_drewN H_g0.out _) hk (fun k_ h1_ h2_ => by have h1_ : w4.heap.size ≤ k_ ∧ k_ < w5.heap.size := h1_; have h2_ : w3.heap.size ≤ k_ ∧ k_ < w4.heap.size := h2_; have := Z1.out; have := Z2.out; have := Z3.out; have := Z4.out; have := Z5.out; have := Z6.out; have := Z7.out; have := Z8.out; have := Z9.out; omega)); have HB' := Aside0.mk hb0; clear HB; have HB := HB'; clear HB' hb0 hk; rw [hl] at ho; have H_y0' := Aside0.mk (Kd.S_bound ho); rw [hl]; clear ho; clear H_w0; clear H_y0; clear H_g0; have H_w0 := H_w0'; clear H_w0'; have H_z0 := H_y0'; clear H_y0'; have H_g0 := H_g0'; clear H_g0'; clear H_z0; clear E11) | (go_at_call 18; (with_reducible refine (laws_eqByteS.calls (hr0 := (Kd.RM_reads' (by first | exact H_g0.out | exact Kd.RM_drewN H_g0.out _)).2.2) (hc0 := (Kd.RM_reads' H_g0.out).2.1) (hr1 := (Kd.RM_reads' (by first | exact H_w0.out | exact Kd.RM_drewN H_w0.out _)).2.2) (hc1 := (Kd.RM_reads' H_w0.out).2.1) (h := E13.out)).mono ?_); rintro e w10 ⟨rfl, hd⟩; (first | have hb := below_of hd | have hb := hd); clear hd; have Z10 := Aside0.mk (show w9.heap.size ≤ w10.heap.size from hb.size); have HB' := Aside0.mk (below_step (by repeat (first | (with_reducible first | exact HB.out | apply below_alloc | apply pw_below_drewN | apply below_drew1) | exact HB.out)) hb); clear HB; have HB := HB'; clear HB'; have H_w0' := Aside0.mk (Kd.RM_below (by first | exact H_w0.out | exact Kd.RM_drewN H_w0.out _) hb); have H_g0' := Aside0.mk (Kd.RM_below (by first | exact H_g0.out | exact Kd.RM_drewN H_g0.out _) hb); clear H_w0; clear H_g0; have H_w0 := H_w0'; clear H_w0'; have H_g0 := H_g0'; clear H_g0'; clear E13) | (go_at_call 19; (with_reducible refine (laws_markByteS.callsM (w0 := w) (hB := by repeat (first | (with_reducible first | exact HB.out | apply below_alloc | apply pw_below_drewN | apply below_drew1) | exact HB.out)) (ho0 := by first | exact H_g0.out | exact Kd.RM_drewN H_g0.out _) (h := E15.out)).mono ?_); rintro e w11 ⟨rfl, ho, hb0, hk⟩; have hl := (Kd.RM_reads' ho).1; have Z11 := Aside0.mk (show w10.heap.size ≤ w11.heap.size from hk.1); have H_w0' := Aside0.mk (Kd.RM_kept (by first | exact H_w0.out | exact Kd.RM_drewN H_w0.out _) hk (fun k_ h1_ h2_ => by have h1_ : w2.heap.size ≤ k_ ∧ k_ < w3.heap.size := h1_; have h2_ : w4.heap.size ≤ k_ ∧ k_ < w5.heap.size := h2_; have := Z1.out; have := Z2.out; have := Z3.out; have := Z4.out; have := Z5.out; have := Z6.out; have := Z7.out; have := Z8.out; have := Z9.out; have := Z10.out; have := Z11.out; omega)); have HB' := Aside0.mk hb0; clear HB; have HB := HB'; clear HB' hb0 hk; rw [hl] at ho; have H_g0' := Aside0.mk (Kd.RM_bound ho); rw [hl]; clear ho; clear H_w0; clear H_g0; have H_w0 := H_w0'; clear H_w0'; have H_e0 := H_g0'; clear H_g0'; clear E15) | (go_at_call 28; (with_reducible refine (laws_heldByteS.calls (hr0 := (Kd.RM_reads' (by first | exact H_e0.out | exact Kd.RM_drewN H_e0.out _)).2.2) (hc0 := (Kd.RM_reads' H_e0.out).2.1) (h := E16.out)).mono ?_); rintro e w12 ⟨rfl, hd⟩; (first | have hb := below_of hd | have hb := hd); clear hd; have Z12 := Aside0.mk (show w11.heap.size ≤ w12.heap.size from hb.size); have HB' := Aside0.mk (below_step (by repeat (first | (with_reducible first | exact HB.out | apply below_alloc | apply pw_below_drewN | apply below_drew1) | exact HB.out)) hb); clear HB; have HB := HB'; clear HB'; have H_w0' := Aside0.mk (Kd.RM_below (by first | exact H_w0.out | exact Kd.RM_drewN H_w0.out _) hb); have H_e0' := Aside0.mk (Kd.RM_below (by first | exact H_e0.out | exact Kd.RM_drewN H_e0.out _) hb); clear H_w0; clear H_e0; have H_w0 := H_w0'; clear H_w0'; have H_e0 := H_e0'; clear H_e0'; clear E16) | (go_at_call 26; (with_reducible refine (laws_toStepS.calls (hr0 := (Kd.C_below HR_l0.out (by repeat (first | (with_reducible first | exact HB.out | apply below_alloc | apply pw_below_drewN | apply below_drew1) | exact HB.out)))) (hc0 := HC_l0.out) (h := E19.out)).mono ?_); rintro e w13 ⟨v0_, rfl, ho0, hb⟩; have H_w0' := Aside0.mk (Kd.RM_below (by first | exact H_w0.out | exact Kd.RM_drewN H_w0.out _) hb); have H_e0' := Aside0.mk (Kd.RM_below (by first | exact H_e0.out | exact Kd.RM_drewN H_e0.out _) hb); have H_d0 := Aside0.mk (show Kd.S _ _ w13 w.heap.size (fun k_ => w12.heap.size ≤ k_ ∧ k_ < w13.heap.size) v0_ d0 from Kd.S_mono (Kd.S_lower (Kd.S_bound ho0) HB.out.size) (fun k_ hk_ => ⟨hk_.2.1, hk_.2.2.1⟩)); obtain ⟨A_d0, c_d0, e_d0⟩ := Kd.S_slice ho0; subst e_d0; clear ho0; have Z13 := Aside0.mk (show w12.heap.size ≤ w13.heap.size from hb.size); have HB' := Aside0.mk (below_step (by repeat (first | (with_reducible first | exact HB.out | apply below_alloc | apply pw_below_drewN | apply below_drew1) | exact HB.out)) hb); clear HB; have HB := HB'; clear HB'; clear H_w0; clear H_e0; have H_w0 := H_w0'; clear H_w0'; have H_e0 := H_e0'; clear H_e0'; clear E19) | (go_at_call 30; (with_reducible refine (impl_DeltaBytes.callsM (hr0 := (Kd.S_reads' (by first | exact H_d0.out | exact Kd.S_drewN H_d0.out _)).2.2) (hc0 := (Kd.S_reads' H_d0.out).2.1) (h := E20.out)).mono ?_); rintro e w14 ⟨v0_, rfl, ho0, hb⟩; have H_w0' := Aside0.mk (Kd.RM_below (by first | exact H_w0.out | exact Kd.RM_drewN H_w0.out _) hb); have H_e0' := Aside0.mk (Kd.RM_below (by first | exact H_e0.out | exact Kd.RM_drewN H_e0.out _) hb); have H_d0' := Aside0.mk (Kd.S_below (by first | exact H_d0.out | exact Kd.S_drewN H_d0.out _) hb); have H_h0 := Aside0.mk (show Kd.RM _ w14 w.heap.size (fun k_ => w13.heap.size ≤ k_ ∧ k_ < w14.heap.size) v0_ h0 from Kd.RM_mono (Kd.RM_lower (Kd.RM_bound ho0) HB.out.size) (fun k_ hk_ => ⟨hk_.2.1, hk_.2.2.1⟩)); obtain ⟨A_h0, c_h0, e_h0⟩ := Kd.RM_slice ho0; subst e_h0; clear ho0; have Z14 := Aside0.mk (show w13.heap.size ≤ w14.heap.size from hb.size); have HB' := Aside0.mk (below_step (by repeat (first | (with_reducible first | exact HB.out | apply below_alloc | apply pw_below_drewN | apply below_drew1) | exact HB.out)) hb); clear HB; have HB := HB'; clear HB'; clear H_w0; clear H_e0; clear H_d0; have H_w0 := H_w0'; clear H_w0'; have H_e0 := H_e0'; clear H_e0'; have H_d0 := H_d0'; clear H_d0'; clear H_d0; clear E20) | (go_at_call 18; (with_reducible refine (laws_eqByteS.calls (hr0 := (Kd.RM_reads' (by first | exact H_h0.out | exact Kd.RM_drewN H_h0.out _)).2.2) (hc0 := (Kd.RM_reads' H_h0.out).2.1) (hr1 := (Kd.RM_reads' (by first | exact H_w0.out | exact Kd.RM_drewN H_w0.out _)).2.2) (hc1 := (Kd.RM_reads' H_w0.out).2.1) (h := E21.out)).mono ?_); rintro e w15 ⟨rfl, hd⟩; (first | have hb := below_of hd | have hb := hd); clear hd; have Z15 := Aside0.mk (show w14.heap.size ≤ w15.heap.size from hb.size); have HB' := Aside0.mk (below_step (by repeat (first | (with_reducible first | exact HB.out | apply below_alloc | apply pw_below_drewN | apply below_drew1) | exact HB.out)) hb); clear HB; have HB := HB'; clear HB'; have H_w0' := Aside0.mk (Kd.RM_below (by first | exact H_w0.out | exact Kd.RM_drewN H_w0.out _) hb); have H_e0' := Aside0.mk (Kd.RM_below (by first | exact H_e0.out | exact Kd.RM_drewN H_e0.out _) hb); have H_h0' := Aside0.mk (Kd.RM_below (by first | exact H_h0.out | exact Kd.RM_drewN H_h0.out _) hb); clear H_w0; clear H_e0; clear H_h0; have H_w0 := H_w0'; clear H_w0'; have H_e0 := H_e0'; clear H_e0'; have H_h0 := H_h0'; clear H_h0'; clear H_w0; clear H_h0; clear E21) | (go_at_call 28; (with_reducible refine (laws_heldByteS.calls (hr0 := (Kd.RM_reads' (by first | exact H_e0.out | exact Kd.RM_drewN H_e0.out _)).2.2) (hc0 := (Kd.RM_reads' H_e0.out).2.1) (h := E23.out)).mono ?_); rintro e w16 ⟨rfl, hd⟩; (first | have hb := below_of hd | have hb := hd); clear hd; have Z16 := Aside0.mk (show w15.heap.size ≤ w16.heap.size from hb.size); have HB' := Aside0.mk (below_step (by repeat (first | (with_reducible first | exact HB.out | apply below_alloc | apply pw_below_drewN | apply below_drew1) | exact HB.out)) hb); clear HB; have HB := HB'; clear HB'; have H_e0' := Aside0.mk (Kd.RM_below (by first | exact H_e0.out | exact Kd.RM_drewN H_e0.out _) hb); clear H_e0; have H_e0 := H_e0'; clear H_e0'; clear H_e0; clear E23))
  go_ret
  exact ⟨rfl, by repeat (first | (with_reducible first | exact HB.out | apply below_alloc | apply pw_below_drewN | apply below_drew1) | exact HB.out)⟩

/-- THE ONE PURE STATEMENT of laws_FnExactDeltaBytes: yours. -/
def laws_FnExactDeltaBytes.Pure : Prop := ∀ (l0 : List (S65)), (l0.length ≤ maxLen ∧ ∀ y0 ∈ l0, ((Lit.int .i64 y0.f0).wf = true ∧ (Lit.int .i64 y0.f1).wf = true ∧ (Lit.int .i64 y0.f2).wf = true ∧ (y0.f3.length ≤ maxLen ∧ ∀ y1 ∈ y0.f3, (Lit.int .u8 y1).wf = true))) → ∃ k, laws_FnExactDeltaBytes.f k l0 = some true
theorem laws_FnExactDeltaBytes.walk (P : laws_FnExactDeltaBytes.Pure) (A0 : Option Addr) (c0 : Nat) (l0 : List (S65)) (w : World) (hr0 : Kd.C k65 w A0 l0.length l0) (hc0 : l0.length ≤ c0) (ok0 : (l0.length ≤ maxLen ∧ ∀ y0 ∈ l0, ((Lit.int .i64 y0.f0).wf = true ∧ (Lit.int .i64 y0.f1).wf = true ∧ (Lit.int .i64 y0.f2).wf = true ∧ (y0.f3.length ≤ maxLen ∧ ∀ y1 ∈ y0.f3, (Lit.int .u8 y1).wf = true)))) :
    Calls Try.prog 6 #[.slice A0 l0.length c0] w fun e w' => e = .returned (.bool true) ∧ Below w.heap.size w w' := by
  obtain ⟨k, h⟩ := P l0 ok0
  refine (laws_FnExactDeltaBytes.calls k _ _ l0 true w hr0 hc0 h).mono ?_
  rintro e w' ⟨rfl, hd⟩
  exact ⟨rfl, hd⟩
end Go.Proofs.Ytkijlpiiiejjkaa.PFnExactDeltaBytes
