-- Laid by a program of this session: a turned copy of the kit's print, with contracts by hand beside.
import Derived.Test.YtnahkojlamficaaPFnExactPlanUnitsx0
namespace Go.Proofs.Ytnahkojlamficaa.PFnExactPlanUnits
open Go.RowKit Go.Proofs.YtnahkojlamficaaW.PrintWords Go.Proofs.YtnahkojlamficaaW.PrintLast Go.Proofs.YtnahkojlamficaaW.PrintMore
theorem zg0 {X : Prop} (h : X := by first | rfl | (simp; done) | (simp [*]; done)) : X := h
theorem zg1 {X : Prop} (h : X := by repeat (first | exact Drawn0.refl _ | apply Drawn0.step)) : X := h
theorem zg2 {X : Prop} (h : X := by first | (with_reducible assumption) | assumption) : X := h
theorem zg3 {X : Prop} (h : X := by (with_reducible repeat (first | refine blk_drewN ?_ _ | refine blk_drew ?_ | refine blk_alloc ?_ _)); exact BK177.out) : X := h
theorem zg4 {X : Prop} (h : X := by repeat (first | (with_reducible first | exact HB.out | apply below_alloc | apply pw_below_drewN | apply below_drew1 | refine below_set ?_ GE177.out) | exact HB.out)) : X := h
theorem zg5 {X : Prop} (h : X := by (try simp only [List.map_toArray, List.map_cons, List.map_nil]); first | done | rfl | (simp only [List.length_drop, List.length_take]; rfl)) : X := h
theorem zg6 {A0 X : Prop} (a0 : A0) (h : A0 → X := by intro a0_; repeat (first | exact (Kd.C_below a0_ HB.out) | (with_reducible refine Kd.C_alloc ?_ _) | (with_reducible refine Kd.C_drewN ?_ _) | (with_reducible refine Kd.C_drew ?_))) : X := h a0
theorem zg7 {X : Prop} (h : X := by first | rfl | (simp [errW_none, errW_some] <;> rfl) | (simp [*, errW_none, errW_some] <;> rfl)) : X := h
theorem zg8 {X : Prop} (h : X := by repeat (first | exact (Kd.C_below HR2.out (qG GE177.out)) | (with_reducible refine Kd.C_alloc ?_ _) | (with_reducible refine Kd.C_drewN ?_ _) | (with_reducible refine Kd.C_drew ?_))) : X := h
attribute [local go_sem] max2_int min2_int max_two min_two max_three min_three max_four min_four   -- for this text's walks alone
set_option linter.unusedVariables false
set_option linter.unusedSimpArgs false

/-! ### spec_l3Has: function 60 -/
def spec_l3Has.l0 : Nat → List ByteArray → ByteArray → Int → Option (Bool)
 | 0, _, _, _ => none
 | k + 1, x0, x1, x5 => if x5 < (x0.length : Int) then (if 0 ≤ x5 then (if (rdOf ByteArray.empty x0 x5).toList = x1.toList then (some true) else (spec_l3Has.l0 k x0 x1 (wrap64 (x5 + 1)))) else (none)) else (some false)
def spec_l3Has.f (k : Nat) (l0 : List ByteArray) (a1 : ByteArray) : Option (Bool) := spec_l3Has.l0 k l0 a1 0
theorem spec_l3Has.mono_l : ∀ k, (∀ y0 y1 y2, LeO (spec_l3Has.l0 k y0 y1 y2) (spec_l3Has.l0 (k + 1) y0 y1 y2))
 | 0 => fun _ _ _ r h => by simp [spec_l3Has.l0] at h
 | k + 1 => by
  have ih0 := spec_l3Has.mono_l k
  ·intro y0 y1 y2; unfold spec_l3Has.l0
   repeat' first
   | (with_reducible exact ih0 _ _ _)
   | (with_reducible exact LeO.refl _)
   | (with_reducible exact LeO.none _)
   | (with_reducible refine LeO.ite ?_ ?_)
   | (with_reducible refine LeO.bind ?_ (fun _ => ?_))
   | exact ih0 _ _ _
   | exact LeO.none _
   | refine LeO.ite ?_ ?_
   | refine LeO.bind ?_ (fun _ => ?_)
theorem spec_l3Has.mono : ∀ a0 a1 k, LeO (spec_l3Has.f k a0 a1) (spec_l3Has.f (k + 1) a0 a1) := by
 intro a0 a1 k; have ih0 := spec_l3Has.mono_l k; unfold spec_l3Has.f
 repeat' first
   | (with_reducible exact ih0 _ _ _)
   | (with_reducible exact LeO.refl _)
   | (with_reducible exact LeO.none _)
   | (with_reducible refine LeO.ite ?_ ?_)
   | (with_reducible refine LeO.bind ?_ (fun _ => ?_))
   | exact ih0 _ _ _
   | exact LeO.none _
   | refine LeO.ite ?_ ?_
   | refine LeO.bind ?_ (fun _ => ?_)
set_option maxHeartbeats 8000000 in
set_option maxRecDepth 100000 in
theorem spec_l3Has.calls (k : Nat) (A0 : Option Addr) (c0 : Nat) (l0 : List ByteArray) (a1 : ByteArray) (r : Bool) (w : World) (hr0 : Kd.C Kd.string w A0 l0.length l0) (hc0 : l0.length ≤ c0) (h : spec_l3Has.f k l0 a1 = some r) :
  Calls Try.prog 60 #[.slice A0 l0.length c0, .string a1] w fun e w' => e = .returned (.bool r) ∧ Drawn0 w w' := by
 have HR0 := Aside0.mk hr0; have HC0 := Aside0.mk hc0; clear hr0 hc0; have H : (spec_l3Has.l0 k l0 a1 0) = some r := h; clear h; have H' := Aside0.mk H; clear H; go_enter Try.func60, Try.ntmps60; go_wp2; go_loopg [5] k (fun kq v5 w' => ∃ (x5_1 : Int), v5 = .int .i64 x5_1 ∧ Aside0 (spec_l3Has.l0 kq l0 a1 x5_1 = some r) ∧ Aside0 (kq ≤ k) ∧ Drawn0 w w'); (case atStart => exact ⟨(0), zg0, H', ⟨Nat.le_refl _⟩, zg1⟩); case round =>
  clear H'; (try clear p2); obtain ⟨x5_1, rfl, HA, HK1, ⟨m1, rfl⟩⟩ := hrel
  cases gk with
  | zero => exact absurd HA.out (by simp [spec_l3Has.l0])
  | succ k1 =>
   have H := HA.out; clear HA; simp only [spec_l3Has.l0] at H; by_cases c3 : x5_1 < (l0.length : Int)
   ·rw [if_pos c3] at H; have c3b0 : decide (x5_1 < (l0.length : Int)) = true := decide_eq_true c3; clear c3; by_cases c4 : 0 ≤ x5_1
    ·rw [if_pos c4] at H; have c4b0 : decide (0 ≤ x5_1) = true := decide_eq_true c4; clear c4; by_cases c5 : (rdOf ByteArray.empty l0 x5_1).toList = a1.toList
     ·rw [if_pos c5] at H; have c5b0 : ((rdOf ByteArray.empty l0 x5_1).toList == a1.toList) = true := beq_iff_eq.mpr c5; have c5b1 : ((rdOf ByteArray.empty l0 x5_1).toList != a1.toList) = false := bne_eq_false_iff_eq.mpr c5; clear c5; obtain rfl := Option.some.inj H; have p175 : 0 ≤ (x5_1 : Int) := of_decide_eq_true zg2; have q175 : x5_1 < (l0.length : Int) := of_decide_eq_true zg2; obtain ⟨ad175, e175, hx175_0⟩ := Kd.at_string HR0.out x5_1 p175 q175; cases e175; replace p175 := eq_true p175; replace q175 := eq_true q175; go_wp2; go_ret; exact ⟨zg0, zg1⟩
     ·rw [if_neg c5] at H; have c5b0 : ((rdOf ByteArray.empty l0 x5_1).toList == a1.toList) = false := beq_eq_false_iff_ne.mpr c5; have c5b1 : ((rdOf ByteArray.empty l0 x5_1).toList != a1.toList) = true := bne_iff_ne.mpr c5; have H' := Aside0.mk H; clear H; have p175 : 0 ≤ (x5_1 : Int) := of_decide_eq_true zg2; have q175 : x5_1 < (l0.length : Int) := of_decide_eq_true zg2; obtain ⟨ad175, e175, hx175_0⟩ := Kd.at_string HR0.out x5_1 p175 q175; cases e175; replace p175 := eq_true p175; replace q175 := eq_true q175; go_wp2; go_roundg k1; (case measure => have := HK1.out; omega); case rel => exact ⟨(wrap64 (x5_1 + 1)), zg0, H', ⟨by have := HK1.out; omega⟩, zg1⟩
    ·rw [if_neg c4] at H; exact absurd H (by simp)
   ·rw [if_neg c3] at H; have c3b0 : decide (x5_1 < (l0.length : Int)) = false := decide_eq_false c3; clear c3; obtain rfl := Option.some.inj H; go_wp2; go_ret; exact ⟨zg0, zg1⟩

/-! ### spec_l18Find: function 61 -/
def spec_l18Find.l0 : Nat → List (S55) → ByteArray → Int → Option (Int)
 | 0, _, _, _ => none
 | k + 1, x0, x1, x5 => if x5 < (x0.length : Int) then (if 0 ≤ x5 then (if ((rd_T55 x0 x5).f0).toList = x1.toList then (some x5) else (spec_l18Find.l0 k x0 x1 (wrap64 (x5 + 1)))) else (none)) else (some (-1))
def spec_l18Find.f (k : Nat) (l0 : List (S55)) (a1 : ByteArray) : Option (Int) := spec_l18Find.l0 k l0 a1 0
theorem spec_l18Find.mono_l : ∀ k, (∀ y0 y1 y2, LeO (spec_l18Find.l0 k y0 y1 y2) (spec_l18Find.l0 (k + 1) y0 y1 y2))
 | 0 => fun _ _ _ r h => by simp [spec_l18Find.l0] at h
 | k + 1 => by
  have ih0 := spec_l18Find.mono_l k
  ·intro y0 y1 y2; unfold spec_l18Find.l0
   repeat' first
   | (with_reducible exact ih0 _ _ _)
   | (with_reducible exact LeO.refl _)
   | (with_reducible exact LeO.none _)
   | (with_reducible refine LeO.ite ?_ ?_)
   | (with_reducible refine LeO.bind ?_ (fun _ => ?_))
   | exact ih0 _ _ _
   | exact LeO.none _
   | refine LeO.ite ?_ ?_
   | refine LeO.bind ?_ (fun _ => ?_)
theorem spec_l18Find.mono : ∀ a0 a1 k, LeO (spec_l18Find.f k a0 a1) (spec_l18Find.f (k + 1) a0 a1) := by
 intro a0 a1 k; have ih0 := spec_l18Find.mono_l k; unfold spec_l18Find.f
 repeat' first
   | (with_reducible exact ih0 _ _ _)
   | (with_reducible exact LeO.refl _)
   | (with_reducible exact LeO.none _)
   | (with_reducible refine LeO.ite ?_ ?_)
   | (with_reducible refine LeO.bind ?_ (fun _ => ?_))
   | exact ih0 _ _ _
   | exact LeO.none _
   | refine LeO.ite ?_ ?_
   | refine LeO.bind ?_ (fun _ => ?_)
set_option maxHeartbeats 8000000 in
set_option maxRecDepth 100000 in
theorem spec_l18Find.calls (k : Nat) (A0 : Option Addr) (c0 : Nat) (l0 : List (S55)) (a1 : ByteArray) (r : Int) (w : World) (hr0 : Kd.C k55 w A0 l0.length l0) (hc0 : l0.length ≤ c0) (h : spec_l18Find.f k l0 a1 = some r) :
  Calls Try.prog 61 #[.slice A0 l0.length c0, .string a1] w fun e w' => e = .returned (.int .i64 r) ∧ Drawn0 w w' := by
 have HR0 := Aside0.mk hr0; have HC0 := Aside0.mk hc0; clear hr0 hc0; have H : (spec_l18Find.l0 k l0 a1 0) = some r := h; clear h; have H' := Aside0.mk H; clear H; go_enter Try.func61, Try.ntmps61; go_wp2; go_loopg [5] k (fun kq v5 w' => ∃ (x5_1 : Int), v5 = .int .i64 x5_1 ∧ Aside0 (spec_l18Find.l0 kq l0 a1 x5_1 = some r) ∧ Aside0 (kq ≤ k) ∧ Drawn0 w w'); (case atStart => exact ⟨(0), zg0, H', ⟨Nat.le_refl _⟩, zg1⟩); case round =>
  clear H'; (try clear p2); obtain ⟨x5_1, rfl, HA, HK1, ⟨m1, rfl⟩⟩ := hrel
  cases gk with
  | zero => exact absurd HA.out (by simp [spec_l18Find.l0])
  | succ k1 =>
   have H := HA.out; clear HA; simp only [spec_l18Find.l0] at H; by_cases c3 : x5_1 < (l0.length : Int)
   ·rw [if_pos c3] at H; have c3b0 : decide (x5_1 < (l0.length : Int)) = true := decide_eq_true c3; clear c3; by_cases c4 : 0 ≤ x5_1
    ·rw [if_pos c4] at H; have c4b0 : decide (0 ≤ x5_1) = true := decide_eq_true c4; clear c4; by_cases c5 : ((rd_T55 l0 x5_1).f0).toList = a1.toList
     ·rw [if_pos c5] at H; have c5b0 : (((rd_T55 l0 x5_1).f0).toList == a1.toList) = true := beq_iff_eq.mpr c5; have c5b1 : (((rd_T55 l0 x5_1).f0).toList != a1.toList) = false := bne_eq_false_iff_eq.mpr c5; clear c5; obtain rfl := Option.some.inj H; have p176 : 0 ≤ (x5_1 : Int) := of_decide_eq_true zg2; have q176 : x5_1 < (l0.length : Int) := of_decide_eq_true zg2; obtain ⟨ad176, A176_1, c176_1, A176_2, c176_2, e176, hx176_0, hx176_1, hx176_2, hx176_3, hx176_4, hl176_1, hi176_1, hl176_2, hi176_2⟩ := at_T55 HR0.out x5_1 p176 q176; cases e176; have HR176_1 := Aside0.mk hi176_1; have HC176_1 := Aside0.mk hl176_1; clear hi176_1 hl176_1; have HR176_2 := Aside0.mk hi176_2; have HC176_2 := Aside0.mk hl176_2; clear hi176_2 hl176_2; replace p176 := eq_true p176; replace q176 := eq_true q176; go_wp2; go_ret; exact ⟨zg0, zg1⟩
     ·rw [if_neg c5] at H; have c5b0 : (((rd_T55 l0 x5_1).f0).toList == a1.toList) = false := beq_eq_false_iff_ne.mpr c5; have c5b1 : (((rd_T55 l0 x5_1).f0).toList != a1.toList) = true := bne_iff_ne.mpr c5; have H' := Aside0.mk H; clear H; have p176 : 0 ≤ (x5_1 : Int) := of_decide_eq_true zg2; have q176 : x5_1 < (l0.length : Int) := of_decide_eq_true zg2; obtain ⟨ad176, A176_1, c176_1, A176_2, c176_2, e176, hx176_0, hx176_1, hx176_2, hx176_3, hx176_4, hl176_1, hi176_1, hl176_2, hi176_2⟩ := at_T55 HR0.out x5_1 p176 q176; cases e176; have HR176_1 := Aside0.mk hi176_1; have HC176_1 := Aside0.mk hl176_1; clear hi176_1 hl176_1; have HR176_2 := Aside0.mk hi176_2; have HC176_2 := Aside0.mk hl176_2; clear hi176_2 hl176_2; replace p176 := eq_true p176; replace q176 := eq_true q176; go_wp2; go_roundg k1; (case measure => have := HK1.out; omega); case rel => exact ⟨(wrap64 (x5_1 + 1)), zg0, H', ⟨by have := HK1.out; omega⟩, zg1⟩
    ·rw [if_neg c4] at H; exact absurd H (by simp)
   ·rw [if_neg c3] at H; have c3b0 : decide (x5_1 < (l0.length : Int)) = false := decide_eq_false c3; clear c3; obtain rfl := Option.some.inj H; go_wp2; go_ret; exact ⟨zg0, zg1⟩

/-! ### spec_l18Ready: function 63 -/
mutual
def spec_l18Ready.l0 : Nat → List (S55) → List ByteArray → Int → ByteArray → List ByteArray → List ByteArray → ByteArray → Bool → Option (Bool)
 | 0, _, _, _, _, _, _, _, _ => none
 | k + 1, x0, x2, x7, x178000, x178001, x178002, x178003, x178004 => if x7 < (x178002.length : Int) then (if 0 ≤ x7 then ((spec_l3Has.f k x2 (rdOf ByteArray.empty x178002 x7)).bind fun t179 => (if t179 = true then (spec_l18Ready.l0 k x0 x2 (wrap64 (x7 + 1)) x178000 x178001 x178002 x178003 x178004) else (some false))) else (none)) else (spec_l18Ready.l1 k x0 x2 0 x178000 x178001 x178002 x178003 x178004)
def spec_l18Ready.l1 : Nat → List (S55) → List ByteArray → Int → ByteArray → List ByteArray → List ByteArray → ByteArray → Bool → Option (Bool)
 | 0, _, _, _, _, _, _, _, _ => none
 | k + 1, x0, x2, x8, x178000, x178001, x178002, x178003, x178004 => if x8 < (x178001.length : Int) then (if 0 ≤ x8 then ((spec_l18Find.f k x0 (rdOf ByteArray.empty x178001 x8)).bind fun t181 => (if t181 ≥ 0 then ((spec_l3Has.f k x2 (rdOf ByteArray.empty x178001 x8)).bind fun t183 => (if t183 = true then (spec_l18Ready.l1 k x0 x2 (wrap64 (x8 + 1)) x178000 x178001 x178002 x178003 x178004) else (some false))) else (spec_l18Ready.l1 k x0 x2 (wrap64 (x8 + 1)) x178000 x178001 x178002 x178003 x178004))) else (none)) else (some true)
end
def spec_l18Ready.f (k : Nat) (l0 : List (S55)) (a1_0 : ByteArray) (l1_1 : List ByteArray) (l1_2 : List ByteArray) (a1_3 : ByteArray) (a1_4 : Bool) (l2 : List ByteArray) : Option (Bool) := spec_l18Ready.l0 k l0 l2 0 a1_0 l1_1 l1_2 a1_3 a1_4
theorem spec_l18Ready.mono_l : ∀ k, (∀ y0 y1 y2 y3 y4 y5 y6 y7, LeO (spec_l18Ready.l0 k y0 y1 y2 y3 y4 y5 y6 y7) (spec_l18Ready.l0 (k + 1) y0 y1 y2 y3 y4 y5 y6 y7)) ∧ (∀ y0 y1 y2 y3 y4 y5 y6 y7, LeO (spec_l18Ready.l1 k y0 y1 y2 y3 y4 y5 y6 y7) (spec_l18Ready.l1 (k + 1) y0 y1 y2 y3 y4 y5 y6 y7))
 | 0 => ⟨fun _ _ _ _ _ _ _ _ r h => by simp [spec_l18Ready.l0] at h, fun _ _ _ _ _ _ _ _ r h => by simp [spec_l18Ready.l1] at h⟩
 | k + 1 => by
  obtain ⟨ih0, ih1⟩ := spec_l18Ready.mono_l k; refine ⟨?_, ?_⟩ <;> intros <;> (first | unfold spec_l18Ready.l0 | unfold spec_l18Ready.l1) <;>
   repeat' first
   | (with_reducible exact ih0 _ _ _ _ _ _ _ _)
   | (with_reducible exact ih1 _ _ _ _ _ _ _ _)
   | (with_reducible exact spec_l18Find.mono _ _ _)
   | (with_reducible exact spec_l3Has.mono _ _ _)
   | (with_reducible exact LeO.refl _)
   | (with_reducible exact LeO.none _)
   | (with_reducible refine LeO.ite ?_ ?_)
   | (with_reducible refine LeO.bind ?_ (fun _ => ?_))
   | exact ih0 _ _ _ _ _ _ _ _
   | exact ih1 _ _ _ _ _ _ _ _
   | exact spec_l18Find.mono _ _ _
   | exact spec_l3Has.mono _ _ _
   | exact LeO.none _
   | refine LeO.ite ?_ ?_
   | refine LeO.bind ?_ (fun _ => ?_)
theorem spec_l18Ready.mono : ∀ a0 a1 a2 a3 a4 a5 a6 k, LeO (spec_l18Ready.f k a0 a1 a2 a3 a4 a5 a6) (spec_l18Ready.f (k + 1) a0 a1 a2 a3 a4 a5 a6) := by
 intro a0 a1 a2 a3 a4 a5 a6 k; obtain ⟨ih0, ih1⟩ := spec_l18Ready.mono_l k; unfold spec_l18Ready.f
 repeat' first
   | (with_reducible exact ih0 _ _ _ _ _ _ _ _)
   | (with_reducible exact ih1 _ _ _ _ _ _ _ _)
   | (with_reducible exact spec_l18Find.mono _ _ _)
   | (with_reducible exact spec_l3Has.mono _ _ _)
   | (with_reducible exact LeO.refl _)
   | (with_reducible exact LeO.none _)
   | (with_reducible refine LeO.ite ?_ ?_)
   | (with_reducible refine LeO.bind ?_ (fun _ => ?_))
   | exact ih0 _ _ _ _ _ _ _ _
   | exact ih1 _ _ _ _ _ _ _ _
   | exact spec_l18Find.mono _ _ _
   | exact spec_l3Has.mono _ _ _
   | exact LeO.none _
   | refine LeO.ite ?_ ?_
   | refine LeO.bind ?_ (fun _ => ?_)
set_option maxHeartbeats 8000000 in
set_option maxRecDepth 100000 in
theorem spec_l18Ready.calls (k : Nat) (A0 : Option Addr) (c0 : Nat) (l0 : List (S55)) (a1_0 : ByteArray) (A1_1 : Option Addr) (c1_1 : Nat) (l1_1 : List ByteArray) (A1_2 : Option Addr) (c1_2 : Nat) (l1_2 : List ByteArray) (a1_3 : ByteArray) (a1_4 : Bool) (A2 : Option Addr) (c2 : Nat) (l2 : List ByteArray) (r : Bool) (w : World) (hr0 : Kd.C k55 w A0 l0.length l0) (hc0 : l0.length ≤ c0) (hr1_1 : Kd.C Kd.string w A1_1 l1_1.length l1_1) (hc1_1 : l1_1.length ≤ c1_1) (hr1_2 : Kd.C Kd.string w A1_2 l1_2.length l1_2) (hc1_2 : l1_2.length ≤ c1_2) (hr2 : Kd.C Kd.string w A2 l2.length l2) (hc2 : l2.length ≤ c2) (h : spec_l18Ready.f k l0 a1_0 l1_1 l1_2 a1_3 a1_4 l2 = some r) :
  Calls Try.prog 63 #[.slice A0 l0.length c0, .agg #[.string a1_0, .slice A1_1 l1_1.length c1_1, .slice A1_2 l1_2.length c1_2, .string a1_3, .bool a1_4], .slice A2 l2.length c2] w fun e w' => e = .returned (.bool r) ∧ Below w.heap.size w w' := by
 have hu55 := Try.underlying55; have HR0 := Aside0.mk hr0; have HC0 := Aside0.mk hc0; clear hr0 hc0; have HR1_1 := Aside0.mk hr1_1; have HC1_1 := Aside0.mk hc1_1; clear hr1_1 hc1_1; have HR1_2 := Aside0.mk hr1_2; have HC1_2 := Aside0.mk hc1_2; clear hr1_2 hc1_2; have HR2 := Aside0.mk hr2; have HC2 := Aside0.mk hc2; clear hr2 hc2; have HB := Aside0.mk (Below.refl w.heap.size w); have H : (spec_l18Ready.l0 k l0 l2 0 a1_0 l1_1 l1_2 a1_3 a1_4) = some r := h; clear h; have H' := Aside0.mk H; clear H; go_enter Try.func63, Try.ntmps63; go_wp2_with (first | ((with_reducible refine gate_dst (N := 4) rfl ?_); refine box_event ?hg (N := 4) ?hd (cs := #[.string a1_0, .slice A1_1 l1_1.length c1_1, .slice A1_2 l1_2.length c1_2, .string a1_3, .bool a1_4]) (t := 55) ?hr ?_; (case hd => rfl); (case hg => rfl); (case hr => first | (go_simp; done) | (go_simp; rfl)); intro gb177 hg w4 hbox hb; have BK177 := Aside0.mk (hbox); have GW177 := Aside0.mk ((by rw [hg]; exact (below_size qB) : w.heap.size ≤ gb177)); have GE177 := Aside0.mk ((by rw [hg]; exact (below_size qB) : w.heap.size ≤ gb177)); replace HB := Aside0.mk (below_step qB hb); clear hb hbox hg)); go_loopg [7] k (fun kq v7 w' => ∃ (x7_1 : Int), v7 = .int .i64 x7_1 ∧ Aside0 (spec_l18Ready.l0 kq l0 l2 x7_1 a1_0 l1_1 l1_2 a1_3 a1_4 = some r) ∧ Aside0 (kq ≤ k) ∧ Aside0 (w'.heap[gb177]? = some (.cells #[.string a1_0, (.slice A1_1 l1_1.length c1_1), (.slice A1_2 l1_2.length c1_2), .string a1_3, .bool a1_4] 55 (0, 0))) ∧ Aside0 (Below w.heap.size w w')); (case atStart => exact ⟨(0), zg0, H', ⟨Nat.le_refl _⟩, ⟨zg3⟩, ⟨zg4⟩⟩); case round =>
  clear H'; (try clear c1); (try clear c2); (try clear p2); obtain ⟨x7_1, rfl, HA, HK1, BK177, HB⟩ := hrel
  cases gk with
  | zero => exact absurd HA.out (by simp [spec_l18Ready.l0])
  | succ k1 =>
   have H := HA.out; clear HA; simp only [spec_l18Ready.l0] at H; by_cases c5 : x7_1 < (l1_2.length : Int)
   ·rw [if_pos c5] at H; have c5b0 : decide (x7_1 < (l1_2.length : Int)) = true := decide_eq_true c5; clear c5; by_cases c6 : 0 ≤ x7_1
    ·rw [if_pos c6] at H; have c6b0 : decide (0 ≤ x7_1) = true := decide_eq_true c6; clear c6; replace H := Option.bind_eq_some_iff.mp H; obtain ⟨t179, A70, H⟩ := H; have A7 := Aside0.mk A70; clear A70; by_cases c8 : t179 = true
     ·subst c8; rw [if_pos rfl] at H; have H' := Aside0.mk H; clear H; have hcz9_0 : wr.cell? ⟨gb177, 0, none⟩ = some (.string a1_0) := (blk_cell BK177.out 0).trans rfl; have hcz9_1 : wr.cell? ⟨gb177, 1, none⟩ = some (.slice A1_1 l1_1.length c1_1) := (blk_cell BK177.out 1).trans rfl; have hcz9_2 : wr.cell? ⟨gb177, 2, none⟩ = some (.slice A1_2 l1_2.length c1_2) := (blk_cell BK177.out 2).trans rfl; have hcz9_3 : wr.cell? ⟨gb177, 3, none⟩ = some (.string a1_3) := (blk_cell BK177.out 3).trans rfl; have hcz9_4 : wr.cell? ⟨gb177, 4, none⟩ = some (.bool a1_4) := (blk_cell BK177.out 4).trans rfl; have hfz9_0 := blk_frozen BK177.out 0; have hfz9_1 := blk_frozen BK177.out 1; have hfz9_2 := blk_frozen BK177.out 2; have hfz9_3 := blk_frozen BK177.out 3; have hfz9_4 := blk_frozen BK177.out 4; have p178 : 0 ≤ (x7_1 : Int) := of_decide_eq_true zg2; have q178 : x7_1 < (l1_2.length : Int) := of_decide_eq_true zg2; obtain ⟨ad178, e178, hx178_0⟩ := Kd.at_string HR1_2.out x7_1 p178 q178; cases e178; (try (replace hx178_0 := (HB.out.cell (World.block_lt_of_cell? w _ hx178_0)).trans hx178_0)); replace p178 := eq_true p178; replace q178 := eq_true q178; go_wp2_with (first | ((with_reducible refine gate_callee (f := 60) rfl ?_); refine goesL_ (some 22) rfl rfl Try.func60 (by kernel_rfl) rfl #[.slice A2 l2.length c2, .string (rdOf ByteArray.empty l1_2 x7_1)] rfl zg5 ?_; (with_reducible refine (spec_l3Has.calls k1 _ _ l2 (rdOf ByteArray.empty l1_2 x7_1) true _ ?side1 ?side2 A7.out).mono ?_); (case side1 => exact zg6 HR2.out); (case side2 => exact HC2.out); rintro e w' ⟨rfl, ⟨nd, rfl⟩⟩; refine ⟨_, rfl, ?_⟩)); go_roundg k1; (case measure => have := HK1.out; omega); case rel => exact ⟨(wrap64 (x7_1 + 1)), zg0, H', ⟨by have := HK1.out; omega⟩, ⟨zg3⟩, ⟨zg4⟩⟩
     ·replace c8 := Bool.eq_false_iff.mpr c8; subst c8; rw [if_neg (show ¬ (false = true) by decide)] at H; obtain rfl := Option.some.inj H; have hcz10_0 : wr.cell? ⟨gb177, 0, none⟩ = some (.string a1_0) := (blk_cell BK177.out 0).trans rfl; have hcz10_1 : wr.cell? ⟨gb177, 1, none⟩ = some (.slice A1_1 l1_1.length c1_1) := (blk_cell BK177.out 1).trans rfl; have hcz10_2 : wr.cell? ⟨gb177, 2, none⟩ = some (.slice A1_2 l1_2.length c1_2) := (blk_cell BK177.out 2).trans rfl; have hcz10_3 : wr.cell? ⟨gb177, 3, none⟩ = some (.string a1_3) := (blk_cell BK177.out 3).trans rfl; have hcz10_4 : wr.cell? ⟨gb177, 4, none⟩ = some (.bool a1_4) := (blk_cell BK177.out 4).trans rfl; have hfz10_0 := blk_frozen BK177.out 0; have hfz10_1 := blk_frozen BK177.out 1; have hfz10_2 := blk_frozen BK177.out 2; have hfz10_3 := blk_frozen BK177.out 3; have hfz10_4 := blk_frozen BK177.out 4; have p178 : 0 ≤ (x7_1 : Int) := of_decide_eq_true zg2; have q178 : x7_1 < (l1_2.length : Int) := of_decide_eq_true zg2; obtain ⟨ad178, e178, hx178_0⟩ := Kd.at_string HR1_2.out x7_1 p178 q178; cases e178; (try (replace hx178_0 := (HB.out.cell (World.block_lt_of_cell? w _ hx178_0)).trans hx178_0)); replace p178 := eq_true p178; replace q178 := eq_true q178; go_wp2_with (first | ((with_reducible refine gate_callee (f := 60) rfl ?_); refine goesL_ (some 22) rfl rfl Try.func60 (by kernel_rfl) rfl #[.slice A2 l2.length c2, .string (rdOf ByteArray.empty l1_2 x7_1)] rfl zg5 ?_; (with_reducible refine (spec_l3Has.calls k1 _ _ l2 (rdOf ByteArray.empty l1_2 x7_1) false _ ?side1 ?side2 A7.out).mono ?_); (case side1 => exact zg6 HR2.out); (case side2 => exact HC2.out); rintro e w' ⟨rfl, ⟨nd, rfl⟩⟩; refine ⟨_, rfl, ?_⟩)); go_ret; exact ⟨zg7, zg4⟩
    ·rw [if_neg c6] at H; exact absurd H (by simp)
   ·rw [if_neg c5] at H; have c5b0 : decide (x7_1 < (l1_2.length : Int)) = false := decide_eq_false c5; clear c5; have H' := Aside0.mk H; clear H; have hcz11_0 : wr.cell? ⟨gb177, 0, none⟩ = some (.string a1_0) := (blk_cell BK177.out 0).trans rfl; have hcz11_1 : wr.cell? ⟨gb177, 1, none⟩ = some (.slice A1_1 l1_1.length c1_1) := (blk_cell BK177.out 1).trans rfl; have hcz11_2 : wr.cell? ⟨gb177, 2, none⟩ = some (.slice A1_2 l1_2.length c1_2) := (blk_cell BK177.out 2).trans rfl; have hcz11_3 : wr.cell? ⟨gb177, 3, none⟩ = some (.string a1_3) := (blk_cell BK177.out 3).trans rfl; have hcz11_4 : wr.cell? ⟨gb177, 4, none⟩ = some (.bool a1_4) := (blk_cell BK177.out 4).trans rfl; have hfz11_0 := blk_frozen BK177.out 0; have hfz11_1 := blk_frozen BK177.out 1; have hfz11_2 := blk_frozen BK177.out 2; have hfz11_3 := blk_frozen BK177.out 3; have hfz11_4 := blk_frozen BK177.out 4; go_wp2; go_loopg [8] k1 (fun kq v8 w' => ∃ (x8_2 : Int), v8 = .int .i64 x8_2 ∧ Aside0 (spec_l18Ready.l1 kq l0 l2 x8_2 a1_0 l1_1 l1_2 a1_3 a1_4 = some r) ∧ Aside0 (kq ≤ k1) ∧ Aside0 (w'.heap[gb177]? = some (.cells #[.string a1_0, (.slice A1_1 l1_1.length c1_1), (.slice A1_2 l1_2.length c1_2), .string a1_3, .bool a1_4] 55 (0, 0))) ∧ Aside0 (Below w.heap.size w w')); (case atStart => exact ⟨(0), zg0, H', ⟨Nat.le_refl _⟩, ⟨zg3⟩, ⟨zg4⟩⟩); case round =>
     clear H'; (try clear c1); (try clear p1); (try clear q1); (try clear hx1); (try clear c2); (try clear p2); (try clear c5); (try clear c5b0); (try clear c6); (try clear c6b0); (try clear p6); (try clear c8); (try clear hcz10_0); (try clear hcz10_1); (try clear hcz10_2); (try clear hcz10_3); (try clear hcz10_4); (try clear hcz11_0); (try clear hcz11_1); (try clear hcz11_2); (try clear hcz11_3); (try clear hcz11_4); (try clear hcz9_0); (try clear hcz9_1); (try clear hcz9_2); (try clear hcz9_3); (try clear hcz9_4); (try clear hfz10_0); (try clear hfz10_1); (try clear hfz10_2); (try clear hfz10_3); (try clear hfz10_4); (try clear hfz11_0); (try clear hfz11_1); (try clear hfz11_2); (try clear hfz11_3); (try clear hfz11_4); (try clear hfz9_0); (try clear hfz9_1); (try clear hfz9_2); (try clear hfz9_3); (try clear hfz9_4); (try clear hx178_0); (try clear p178); (try clear p2); (try clear q178); obtain ⟨x8_2, rfl, HA, HK2, BK177, HB⟩ := hrel
     cases gk with
     | zero => exact absurd HA.out (by simp [spec_l18Ready.l1])
     | succ k2 =>
      have H := HA.out; clear HA; simp only [spec_l18Ready.l1] at H; by_cases c12 : x8_2 < (l1_1.length : Int)
      ·rw [if_pos c12] at H; have c12b0 : decide (x8_2 < (l1_1.length : Int)) = true := decide_eq_true c12; clear c12; by_cases c13 : 0 ≤ x8_2
       ·rw [if_pos c13] at H; have c13b0 : decide (0 ≤ x8_2) = true := decide_eq_true c13; clear c13; replace H := Option.bind_eq_some_iff.mp H; obtain ⟨t181, A140, H⟩ := H; have A14 := Aside0.mk A140; clear A140; by_cases c15 : t181 ≥ 0
        ·rw [if_pos c15] at H; have c15b0 : decide (0 ≤ t181) = true := decide_eq_true c15; clear c15; replace H := Option.bind_eq_some_iff.mp H; obtain ⟨t183, A160, H⟩ := H; have A16 := Aside0.mk A160; clear A160; by_cases c17 : t183 = true
         ·subst c17; rw [if_pos rfl] at H; have H' := Aside0.mk H; clear H; have hcz18_0 : wr.cell? ⟨gb177, 0, none⟩ = some (.string a1_0) := (blk_cell BK177.out 0).trans rfl; have hcz18_1 : wr.cell? ⟨gb177, 1, none⟩ = some (.slice A1_1 l1_1.length c1_1) := (blk_cell BK177.out 1).trans rfl; have hcz18_2 : wr.cell? ⟨gb177, 2, none⟩ = some (.slice A1_2 l1_2.length c1_2) := (blk_cell BK177.out 2).trans rfl; have hcz18_3 : wr.cell? ⟨gb177, 3, none⟩ = some (.string a1_3) := (blk_cell BK177.out 3).trans rfl; have hcz18_4 : wr.cell? ⟨gb177, 4, none⟩ = some (.bool a1_4) := (blk_cell BK177.out 4).trans rfl; have hfz18_0 := blk_frozen BK177.out 0; have hfz18_1 := blk_frozen BK177.out 1; have hfz18_2 := blk_frozen BK177.out 2; have hfz18_3 := blk_frozen BK177.out 3; have hfz18_4 := blk_frozen BK177.out 4; have p180 : 0 ≤ (x8_2 : Int) := of_decide_eq_true zg2; have q180 : x8_2 < (l1_1.length : Int) := of_decide_eq_true zg2; obtain ⟨ad180, e180, hx180_0⟩ := Kd.at_string HR1_1.out x8_2 p180 q180; cases e180; (try (replace hx180_0 := (HB.out.cell (World.block_lt_of_cell? w _ hx180_0)).trans hx180_0)); replace p180 := eq_true p180; replace q180 := eq_true q180; go_wp2_with (first | ((with_reducible refine gate_callee (f := 61) rfl ?_); refine goesL_ (some 37) rfl rfl Try.func61 (by kernel_rfl) rfl #[.slice A0 l0.length c0, .string (rdOf ByteArray.empty l1_1 x8_2)] rfl zg5 ?_; (with_reducible refine (spec_l18Find.calls k2 _ _ l0 (rdOf ByteArray.empty l1_1 x8_2) t181 _ ?side1 ?side2 A14.out).mono ?_); (case side1 => exact zg6 HR0.out); (case side2 => exact HC0.out); rintro e w' ⟨rfl, ⟨nd, rfl⟩⟩; refine ⟨_, rfl, ?_⟩; have p182 : 0 ≤ (x8_2 : Int) := of_decide_eq_true zg2; have q182 : x8_2 < (l1_1.length : Int) := of_decide_eq_true zg2; obtain ⟨ad182, e182, hx182_0⟩ := Kd.at_string HR1_1.out x8_2 p182 q182; obtain rfl : ad180 = ad182 := (by injection e182); replace hx182_0 := (HB.out.cell (World.block_lt_of_cell? w _ hx182_0)).trans hx182_0; replace p182 := eq_true p182; replace q182 := eq_true q182) | (go_at_call 60; (with_reducible refine (spec_l3Has.calls k2 _ _ l2 (rdOf ByteArray.empty l1_1 x8_2) true _ ?side1 ?side2 A16.out).mono ?_); (case side1 => exact zg8); (case side2 => exact HC2.out); rintro e w' ⟨rfl, ⟨nd, rfl⟩⟩)); go_roundg k2; (case measure => have := HK1.out; have := HK2.out; omega); case rel => exact ⟨(wrap64 (x8_2 + 1)), zg0, H', ⟨by have := HK1.out; have := HK2.out; omega⟩, ⟨zg3⟩, ⟨zg4⟩⟩
         ·replace c17 := Bool.eq_false_iff.mpr c17; subst c17; rw [if_neg (show ¬ (false = true) by decide)] at H; obtain rfl := Option.some.inj H; have hcz19_0 : wr.cell? ⟨gb177, 0, none⟩ = some (.string a1_0) := (blk_cell BK177.out 0).trans rfl; have hcz19_1 : wr.cell? ⟨gb177, 1, none⟩ = some (.slice A1_1 l1_1.length c1_1) := (blk_cell BK177.out 1).trans rfl; have hcz19_2 : wr.cell? ⟨gb177, 2, none⟩ = some (.slice A1_2 l1_2.length c1_2) := (blk_cell BK177.out 2).trans rfl; have hcz19_3 : wr.cell? ⟨gb177, 3, none⟩ = some (.string a1_3) := (blk_cell BK177.out 3).trans rfl; have hcz19_4 : wr.cell? ⟨gb177, 4, none⟩ = some (.bool a1_4) := (blk_cell BK177.out 4).trans rfl; have hfz19_0 := blk_frozen BK177.out 0; have hfz19_1 := blk_frozen BK177.out 1; have hfz19_2 := blk_frozen BK177.out 2; have hfz19_3 := blk_frozen BK177.out 3; have hfz19_4 := blk_frozen BK177.out 4; have p180 : 0 ≤ (x8_2 : Int) := of_decide_eq_true zg2; have q180 : x8_2 < (l1_1.length : Int) := of_decide_eq_true zg2; obtain ⟨ad180, e180, hx180_0⟩ := Kd.at_string HR1_1.out x8_2 p180 q180; cases e180; (try (replace hx180_0 := (HB.out.cell (World.block_lt_of_cell? w _ hx180_0)).trans hx180_0)); replace p180 := eq_true p180; replace q180 := eq_true q180; go_wp2_with (first | ((with_reducible refine gate_callee (f := 61) rfl ?_); refine goesL_ (some 37) rfl rfl Try.func61 (by kernel_rfl) rfl #[.slice A0 l0.length c0, .string (rdOf ByteArray.empty l1_1 x8_2)] rfl zg5 ?_; (with_reducible refine (spec_l18Find.calls k2 _ _ l0 (rdOf ByteArray.empty l1_1 x8_2) t181 _ ?side1 ?side2 A14.out).mono ?_); (case side1 => exact zg6 HR0.out); (case side2 => exact HC0.out); rintro e w' ⟨rfl, ⟨nd, rfl⟩⟩; refine ⟨_, rfl, ?_⟩; have p182 : 0 ≤ (x8_2 : Int) := of_decide_eq_true zg2; have q182 : x8_2 < (l1_1.length : Int) := of_decide_eq_true zg2; obtain ⟨ad182, e182, hx182_0⟩ := Kd.at_string HR1_1.out x8_2 p182 q182; obtain rfl : ad180 = ad182 := (by injection e182); replace hx182_0 := (HB.out.cell (World.block_lt_of_cell? w _ hx182_0)).trans hx182_0; replace p182 := eq_true p182; replace q182 := eq_true q182) | (go_at_call 60; (with_reducible refine (spec_l3Has.calls k2 _ _ l2 (rdOf ByteArray.empty l1_1 x8_2) false _ ?side1 ?side2 A16.out).mono ?_); (case side1 => exact zg8); (case side2 => exact HC2.out); rintro e w' ⟨rfl, ⟨nd, rfl⟩⟩)); go_ret; exact ⟨zg7, zg4⟩
        ·rw [if_neg c15] at H; have c15b0 : decide (0 ≤ t181) = false := decide_eq_false c15; clear c15; have H' := Aside0.mk H; clear H; have hcz20_0 : wr.cell? ⟨gb177, 0, none⟩ = some (.string a1_0) := (blk_cell BK177.out 0).trans rfl; have hcz20_1 : wr.cell? ⟨gb177, 1, none⟩ = some (.slice A1_1 l1_1.length c1_1) := (blk_cell BK177.out 1).trans rfl; have hcz20_2 : wr.cell? ⟨gb177, 2, none⟩ = some (.slice A1_2 l1_2.length c1_2) := (blk_cell BK177.out 2).trans rfl; have hcz20_3 : wr.cell? ⟨gb177, 3, none⟩ = some (.string a1_3) := (blk_cell BK177.out 3).trans rfl; have hcz20_4 : wr.cell? ⟨gb177, 4, none⟩ = some (.bool a1_4) := (blk_cell BK177.out 4).trans rfl; have hfz20_0 := blk_frozen BK177.out 0; have hfz20_1 := blk_frozen BK177.out 1; have hfz20_2 := blk_frozen BK177.out 2; have hfz20_3 := blk_frozen BK177.out 3; have hfz20_4 := blk_frozen BK177.out 4; have p180 : 0 ≤ (x8_2 : Int) := of_decide_eq_true zg2; have q180 : x8_2 < (l1_1.length : Int) := of_decide_eq_true zg2; obtain ⟨ad180, e180, hx180_0⟩ := Kd.at_string HR1_1.out x8_2 p180 q180; cases e180; (try (replace hx180_0 := (HB.out.cell (World.block_lt_of_cell? w _ hx180_0)).trans hx180_0)); replace p180 := eq_true p180; replace q180 := eq_true q180; go_wp2_with (first | ((with_reducible refine gate_callee (f := 61) rfl ?_); refine goesL_ (some 37) rfl rfl Try.func61 (by kernel_rfl) rfl #[.slice A0 l0.length c0, .string (rdOf ByteArray.empty l1_1 x8_2)] rfl zg5 ?_; (with_reducible refine (spec_l18Find.calls k2 _ _ l0 (rdOf ByteArray.empty l1_1 x8_2) t181 _ ?side1 ?side2 A14.out).mono ?_); (case side1 => exact zg6 HR0.out); (case side2 => exact HC0.out); rintro e w' ⟨rfl, ⟨nd, rfl⟩⟩; refine ⟨_, rfl, ?_⟩)); go_roundg k2; (case measure => have := HK1.out; have := HK2.out; omega); case rel => exact ⟨(wrap64 (x8_2 + 1)), zg0, H', ⟨by have := HK1.out; have := HK2.out; omega⟩, ⟨zg3⟩, ⟨zg4⟩⟩
       ·rw [if_neg c13] at H; exact absurd H (by simp)
      ·rw [if_neg c12] at H; have c12b0 : decide (x8_2 < (l1_1.length : Int)) = false := decide_eq_false c12; clear c12; obtain rfl := Option.some.inj H; have hcz21_0 : wr.cell? ⟨gb177, 0, none⟩ = some (.string a1_0) := (blk_cell BK177.out 0).trans rfl; have hcz21_1 : wr.cell? ⟨gb177, 1, none⟩ = some (.slice A1_1 l1_1.length c1_1) := (blk_cell BK177.out 1).trans rfl; have hcz21_2 : wr.cell? ⟨gb177, 2, none⟩ = some (.slice A1_2 l1_2.length c1_2) := (blk_cell BK177.out 2).trans rfl; have hcz21_3 : wr.cell? ⟨gb177, 3, none⟩ = some (.string a1_3) := (blk_cell BK177.out 3).trans rfl; have hcz21_4 : wr.cell? ⟨gb177, 4, none⟩ = some (.bool a1_4) := (blk_cell BK177.out 4).trans rfl; have hfz21_0 := blk_frozen BK177.out 0; have hfz21_1 := blk_frozen BK177.out 1; have hfz21_2 := blk_frozen BK177.out 2; have hfz21_3 := blk_frozen BK177.out 3; have hfz21_4 := blk_frozen BK177.out 4; go_wp2; go_ret; exact ⟨zg7, zg4⟩

end Go.Proofs.Ytnahkojlamficaa.PFnExactPlanUnits
