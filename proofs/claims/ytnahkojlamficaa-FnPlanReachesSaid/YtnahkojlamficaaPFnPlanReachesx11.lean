-- Laid by a program of this session: a turned copy of the kit's print, with contracts by hand beside.
import Derived.Test.YtnahkojlamficaaPFnPlanReachesx0
namespace Go.Proofs.Ytnahkojlamficaa.PFnPlanReaches
open Go.RowKit Go.Proofs.YtnahkojlamficaaW.PrintWords Go.Proofs.YtnahkojlamficaaW.PrintLast Go.Proofs.YtnahkojlamficaaW.PrintMore
theorem zbb0 {X : Prop} (h : X := by first | rfl | (simp; done) | (simp [*]; done)) : X := h
theorem zbb1 {X : Prop} (h : X := by repeat (first | exact Drawn0.refl _ | apply Drawn0.step)) : X := h
theorem zbb2 {X : Prop} (h : X := by first | (with_reducible assumption) | assumption) : X := h
theorem zbb3 {X : Prop} (h : X := by repeat (first | (with_reducible first | exact HB.out | apply below_alloc | apply pw_below_drewN | apply below_drew1) | exact HB.out)) : X := h
theorem zbb4 {X : Prop} (h : X := by repeat (first | (with_reducible first | exact HBW.out | apply below_alloc | apply pw_below_drewN | apply below_drew1) | exact HBW.out)) : X := h
theorem zbb5 {X : Prop} (h : X := by first | rfl | (simp [errW_none, errW_some] <;> rfl) | (simp [*, errW_none, errW_some] <;> rfl)) : X := h
theorem zbb6 {X : Prop} (h : X := by repeat (first | (with_reducible first | exact HI0.out | apply IsS94.alloc | apply IsS94.drewN | apply IsS94.drew | apply IsS94.set_1 | apply IsS94.set_2) | exact HI0.out)) : X := h
theorem zbb7 {X : Prop} (h : X := by repeat (first | (with_reducible first | exact HB.out | apply below_alloc | apply pw_below_drewN | apply below_drew1 | refine below_set ?_ (IsS94.ge HI0.out)) | exact HB.out)) : X := h
theorem zbb8 {X : Prop} (h : X := by repeat (first | (with_reducible first | exact HK.out | apply KeepBut.set_ | apply keep_drewN | apply keep_drew | apply keep_alloc) | exact HK.out)) : X := h
theorem zbb9 {X : Prop} (h : X := by (try simp only [List.map_toArray, List.map_cons, List.map_nil]); first | done | rfl | (simp only [List.length_drop, List.length_take]; rfl)) : X := h
attribute [local go_sem] max2_int min2_int max_two min_two max_three min_three max_four min_four   -- for this text's walks alone
set_option linter.unusedVariables false
set_option linter.unusedSimpArgs false

/-! ### laws_big: function 38 -/
def laws_big.f (l0 : List Int) : Option (Bool) := some (decide ((l0.length : Int) > 1048576))
set_option maxHeartbeats 8000000 in
set_option maxRecDepth 100000 in
theorem laws_big.calls (A0 : Option Addr) (c0 : Nat) (l0 : List Int) (r : Bool) (w : World) (hr0 : Kd.C (Kd.int .u8) w A0 l0.length l0) (hc0 : l0.length ≤ c0) (h : laws_big.f l0 = some r) :
  Calls Try.prog 38 #[.slice A0 l0.length c0] w fun e w' => e = .returned (.bool r) ∧ Drawn0 w w' := by
 have HR0 := Aside0.mk hr0; have HC0 := Aside0.mk hc0; clear hr0 hc0; have H : (some (decide ((l0.length : Int) > 1048576))) = some r := h; clear h; obtain rfl := Option.some.inj H; go_enter Try.func38, Try.ntmps38; go_wp2; go_ret; exact ⟨zbb0, zbb1⟩

/-! ### laws_has: function 40 -/
def laws_has.l0 : Nat → List ByteArray → ByteArray → Int → Option (Bool)
 | 0, _, _, _ => none
 | k + 1, x0, x1, x5 => if x5 < (x0.length : Int) then (if 0 ≤ x5 then (if (rdOf ByteArray.empty x0 x5).toList = x1.toList then (some true) else (laws_has.l0 k x0 x1 (wrap64 (x5 + 1)))) else (none)) else (some false)
def laws_has.f (k : Nat) (l0 : List ByteArray) (a1 : ByteArray) : Option (Bool) := laws_has.l0 k l0 a1 0
theorem laws_has.mono_l : ∀ k, (∀ y0 y1 y2, LeO (laws_has.l0 k y0 y1 y2) (laws_has.l0 (k + 1) y0 y1 y2))
 | 0 => fun _ _ _ r h => by simp [laws_has.l0] at h
 | k + 1 => by
  have ih0 := laws_has.mono_l k
  ·intro y0 y1 y2; unfold laws_has.l0
   repeat' first
   | (with_reducible exact ih0 _ _ _)
   | (with_reducible exact LeO.refl _)
   | (with_reducible exact LeO.none _)
   | (with_reducible refine LeO.ite ?_ ?_)
   | (with_reducible refine LeO.bind ?_ (fun _ => ?_))
   | exact ih0 _ _ _
   | exact LeO.none _
   | refine LeO.ite ?_ ?_
   | refine LeO.bind ?_ (fun _ => ?_)
theorem laws_has.mono : ∀ a0 a1 k, LeO (laws_has.f k a0 a1) (laws_has.f (k + 1) a0 a1) := by
 intro a0 a1 k; have ih0 := laws_has.mono_l k; unfold laws_has.f
 repeat' first
   | (with_reducible exact ih0 _ _ _)
   | (with_reducible exact LeO.refl _)
   | (with_reducible exact LeO.none _)
   | (with_reducible refine LeO.ite ?_ ?_)
   | (with_reducible refine LeO.bind ?_ (fun _ => ?_))
   | exact ih0 _ _ _
   | exact LeO.none _
   | refine LeO.ite ?_ ?_
   | refine LeO.bind ?_ (fun _ => ?_)
set_option maxHeartbeats 8000000 in
set_option maxRecDepth 100000 in
theorem laws_has.calls (k : Nat) (A0 : Option Addr) (c0 : Nat) (l0 : List ByteArray) (a1 : ByteArray) (r : Bool) (w : World) (hr0 : Kd.C Kd.string w A0 l0.length l0) (hc0 : l0.length ≤ c0) (h : laws_has.f k l0 a1 = some r) :
  Calls Try.prog 40 #[.slice A0 l0.length c0, .string a1] w fun e w' => e = .returned (.bool r) ∧ Drawn0 w w' := by
 have HR0 := Aside0.mk hr0; have HC0 := Aside0.mk hc0; clear hr0 hc0; have H : (laws_has.l0 k l0 a1 0) = some r := h; clear h; have H' := Aside0.mk H; clear H; go_enter Try.func40, Try.ntmps40; go_wp2; go_loopg [5] k (fun kq v5 w' => ∃ (x5_1 : Int), v5 = .int .i64 x5_1 ∧ Aside0 (laws_has.l0 kq l0 a1 x5_1 = some r) ∧ Aside0 (kq ≤ k) ∧ Drawn0 w w'); (case atStart => exact ⟨(0), zbb0, H', ⟨Nat.le_refl _⟩, zbb1⟩); case round =>
  clear H'; (try clear p2); obtain ⟨x5_1, rfl, HA, HK1, ⟨m1, rfl⟩⟩ := hrel
  cases gk with
  | zero => exact absurd HA.out (by simp [laws_has.l0])
  | succ k1 =>
   have H := HA.out; clear HA; simp only [laws_has.l0] at H; by_cases c3 : x5_1 < (l0.length : Int)
   ·rw [if_pos c3] at H; have c3b0 : decide (x5_1 < (l0.length : Int)) = true := decide_eq_true c3; clear c3; by_cases c4 : 0 ≤ x5_1
    ·rw [if_pos c4] at H; have c4b0 : decide (0 ≤ x5_1) = true := decide_eq_true c4; clear c4; by_cases c5 : (rdOf ByteArray.empty l0 x5_1).toList = a1.toList
     ·rw [if_pos c5] at H; have c5b0 : ((rdOf ByteArray.empty l0 x5_1).toList == a1.toList) = true := beq_iff_eq.mpr c5; have c5b1 : ((rdOf ByteArray.empty l0 x5_1).toList != a1.toList) = false := bne_eq_false_iff_eq.mpr c5; clear c5; obtain rfl := Option.some.inj H; have p268 : 0 ≤ (x5_1 : Int) := of_decide_eq_true zbb2; have q268 : x5_1 < (l0.length : Int) := of_decide_eq_true zbb2; obtain ⟨ad268, e268, hx268_0⟩ := Kd.at_string HR0.out x5_1 p268 q268; cases e268; replace p268 := eq_true p268; replace q268 := eq_true q268; go_wp2; go_ret; exact ⟨zbb0, zbb1⟩
     ·rw [if_neg c5] at H; have c5b0 : ((rdOf ByteArray.empty l0 x5_1).toList == a1.toList) = false := beq_eq_false_iff_ne.mpr c5; have c5b1 : ((rdOf ByteArray.empty l0 x5_1).toList != a1.toList) = true := bne_iff_ne.mpr c5; have H' := Aside0.mk H; clear H; have p268 : 0 ≤ (x5_1 : Int) := of_decide_eq_true zbb2; have q268 : x5_1 < (l0.length : Int) := of_decide_eq_true zbb2; obtain ⟨ad268, e268, hx268_0⟩ := Kd.at_string HR0.out x5_1 p268 q268; cases e268; replace p268 := eq_true p268; replace q268 := eq_true q268; go_wp2; go_roundg k1; (case measure => have := HK1.out; omega); case rel => exact ⟨(wrap64 (x5_1 + 1)), zbb0, H', ⟨by have := HK1.out; omega⟩, zbb1⟩
    ·rw [if_neg c4] at H; exact absurd H (by simp)
   ·rw [if_neg c3] at H; have c3b0 : decide (x5_1 < (l0.length : Int)) = false := decide_eq_false c3; clear c3; obtain rfl := Option.some.inj H; go_wp2; go_ret; exact ⟨zbb0, zbb1⟩

/-! ### laws_unit: function 41 -/
def laws_unit.l0 : Nat → List (S55) → ByteArray → Int → Option (Int)
 | 0, _, _, _ => none
 | k + 1, x0, x1, x5 => if x5 < (x0.length : Int) then (if 0 ≤ x5 then (if ((rd_T55 x0 x5).f0).toList = x1.toList then (some x5) else (laws_unit.l0 k x0 x1 (wrap64 (x5 + 1)))) else (none)) else (some (-1))
def laws_unit.f (k : Nat) (l0 : List (S55)) (a1 : ByteArray) : Option (Int) := laws_unit.l0 k l0 a1 0
theorem laws_unit.mono_l : ∀ k, (∀ y0 y1 y2, LeO (laws_unit.l0 k y0 y1 y2) (laws_unit.l0 (k + 1) y0 y1 y2))
 | 0 => fun _ _ _ r h => by simp [laws_unit.l0] at h
 | k + 1 => by
  have ih0 := laws_unit.mono_l k
  ·intro y0 y1 y2; unfold laws_unit.l0
   repeat' first
   | (with_reducible exact ih0 _ _ _)
   | (with_reducible exact LeO.refl _)
   | (with_reducible exact LeO.none _)
   | (with_reducible refine LeO.ite ?_ ?_)
   | (with_reducible refine LeO.bind ?_ (fun _ => ?_))
   | exact ih0 _ _ _
   | exact LeO.none _
   | refine LeO.ite ?_ ?_
   | refine LeO.bind ?_ (fun _ => ?_)
theorem laws_unit.mono : ∀ a0 a1 k, LeO (laws_unit.f k a0 a1) (laws_unit.f (k + 1) a0 a1) := by
 intro a0 a1 k; have ih0 := laws_unit.mono_l k; unfold laws_unit.f
 repeat' first
   | (with_reducible exact ih0 _ _ _)
   | (with_reducible exact LeO.refl _)
   | (with_reducible exact LeO.none _)
   | (with_reducible refine LeO.ite ?_ ?_)
   | (with_reducible refine LeO.bind ?_ (fun _ => ?_))
   | exact ih0 _ _ _
   | exact LeO.none _
   | refine LeO.ite ?_ ?_
   | refine LeO.bind ?_ (fun _ => ?_)
set_option maxHeartbeats 8000000 in
set_option maxRecDepth 100000 in
theorem laws_unit.calls (k : Nat) (A0 : Option Addr) (c0 : Nat) (l0 : List (S55)) (a1 : ByteArray) (r : Int) (w : World) (hr0 : Kd.C k55 w A0 l0.length l0) (hc0 : l0.length ≤ c0) (h : laws_unit.f k l0 a1 = some r) :
  Calls Try.prog 41 #[.slice A0 l0.length c0, .string a1] w fun e w' => e = .returned (.int .i64 r) ∧ Drawn0 w w' := by
 have HR0 := Aside0.mk hr0; have HC0 := Aside0.mk hc0; clear hr0 hc0; have H : (laws_unit.l0 k l0 a1 0) = some r := h; clear h; have H' := Aside0.mk H; clear H; go_enter Try.func41, Try.ntmps41; go_wp2; go_loopg [5] k (fun kq v5 w' => ∃ (x5_1 : Int), v5 = .int .i64 x5_1 ∧ Aside0 (laws_unit.l0 kq l0 a1 x5_1 = some r) ∧ Aside0 (kq ≤ k) ∧ Drawn0 w w'); (case atStart => exact ⟨(0), zbb0, H', ⟨Nat.le_refl _⟩, zbb1⟩); case round =>
  clear H'; (try clear p2); obtain ⟨x5_1, rfl, HA, HK1, ⟨m1, rfl⟩⟩ := hrel
  cases gk with
  | zero => exact absurd HA.out (by simp [laws_unit.l0])
  | succ k1 =>
   have H := HA.out; clear HA; simp only [laws_unit.l0] at H; by_cases c3 : x5_1 < (l0.length : Int)
   ·rw [if_pos c3] at H; have c3b0 : decide (x5_1 < (l0.length : Int)) = true := decide_eq_true c3; clear c3; by_cases c4 : 0 ≤ x5_1
    ·rw [if_pos c4] at H; have c4b0 : decide (0 ≤ x5_1) = true := decide_eq_true c4; clear c4; by_cases c5 : ((rd_T55 l0 x5_1).f0).toList = a1.toList
     ·rw [if_pos c5] at H; have c5b0 : (((rd_T55 l0 x5_1).f0).toList == a1.toList) = true := beq_iff_eq.mpr c5; have c5b1 : (((rd_T55 l0 x5_1).f0).toList != a1.toList) = false := bne_eq_false_iff_eq.mpr c5; clear c5; obtain rfl := Option.some.inj H; have p269 : 0 ≤ (x5_1 : Int) := of_decide_eq_true zbb2; have q269 : x5_1 < (l0.length : Int) := of_decide_eq_true zbb2; obtain ⟨ad269, A269_1, c269_1, A269_2, c269_2, e269, hx269_0, hx269_1, hx269_2, hx269_3, hx269_4, hl269_1, hi269_1, hl269_2, hi269_2⟩ := at_T55 HR0.out x5_1 p269 q269; cases e269; have HR269_1 := Aside0.mk hi269_1; have HC269_1 := Aside0.mk hl269_1; clear hi269_1 hl269_1; have HR269_2 := Aside0.mk hi269_2; have HC269_2 := Aside0.mk hl269_2; clear hi269_2 hl269_2; replace p269 := eq_true p269; replace q269 := eq_true q269; go_wp2; go_ret; exact ⟨zbb0, zbb1⟩
     ·rw [if_neg c5] at H; have c5b0 : (((rd_T55 l0 x5_1).f0).toList == a1.toList) = false := beq_eq_false_iff_ne.mpr c5; have c5b1 : (((rd_T55 l0 x5_1).f0).toList != a1.toList) = true := bne_iff_ne.mpr c5; have H' := Aside0.mk H; clear H; have p269 : 0 ≤ (x5_1 : Int) := of_decide_eq_true zbb2; have q269 : x5_1 < (l0.length : Int) := of_decide_eq_true zbb2; obtain ⟨ad269, A269_1, c269_1, A269_2, c269_2, e269, hx269_0, hx269_1, hx269_2, hx269_3, hx269_4, hl269_1, hi269_1, hl269_2, hi269_2⟩ := at_T55 HR0.out x5_1 p269 q269; cases e269; have HR269_1 := Aside0.mk hi269_1; have HC269_1 := Aside0.mk hl269_1; clear hi269_1 hl269_1; have HR269_2 := Aside0.mk hi269_2; have HC269_2 := Aside0.mk hl269_2; clear hi269_2 hl269_2; replace p269 := eq_true p269; replace q269 := eq_true q269; go_wp2; go_roundg k1; (case measure => have := HK1.out; omega); case rel => exact ⟨(wrap64 (x5_1 + 1)), zbb0, H', ⟨by have := HK1.out; omega⟩, zbb1⟩
    ·rw [if_neg c4] at H; exact absurd H (by simp)
   ·rw [if_neg c3] at H; have c3b0 : decide (x5_1 < (l0.length : Int)) = false := decide_eq_false c3; clear c3; obtain rfl := Option.some.inj H; go_wp2; go_ret; exact ⟨zbb0, zbb1⟩

/-- A state of type 94 at block g of W; what its slices lead to came in by w0. -/
def IsS94 (w0 W : World) (g : Nat) (f0 : List Int) (f1 : Int) (f2 : Int) : Prop := ∃ A0 c0, W.heap[g]? = some (.cells #[.slice A0 f0.length c0, .int .i64 f1, .int .i64 f2] 94 (0, 0)) ∧ w0.heap.size ≤ g ∧ Kd.C (Kd.int .u8) w0 A0 f0.length f0
theorem IsS94.grown {w0 W : World} {g : Nat} {f0 : List Int} {f1 : Int} {f2 : Int} {W1 : World} {row : Option Nat} (h : IsS94 w0 W g f0 f1 f2) (hw : W.grownBy W1 row) (hne : some g ≠ row) : IsS94 w0 W1 g f0 f1 f2 := by
 obtain ⟨A0, c0, hb, hg, hr0⟩ := h; exact ⟨A0, c0, blk_grown hb hw hne, hg, hr0⟩
theorem IsS94.own_neN {w0 W : World} {g : Nat} {f0 : List Int} {f1 : Int} {f2 : Int} {α : Type} {d : Kd α} {e : Nat} {base : Nat} {ok : Nat → Prop} {v : Value} {xs : List α} (h : IsS94 w0 W g f0 f1 f2) (ho : Kd.N d e W base ok v xs) (ht : e ≠ 94) : some g ≠ v.ownBlock := by
 obtain ⟨A0, c0, hb, hg, hr0⟩ := h; exact Kd.N_ne ho hb ht
theorem IsS94.fresh {w0 W : World} {g : Nat} {f0 : List Int} {f1 : Int} {f2 : Int} (h : IsS94 w0 W g f0 f1 f2) : ∀ k, W.heap.size ≤ k → k ≠ g := by
 obtain ⟨A0, c0, hb, hg, hr0⟩ := h; exact Kd.freshB hb
theorem IsS94.kept {w0 W : World} {g : Nat} {f0 : List Int} {f1 : Int} {f2 : Int} {W1 : World} {S : Nat → Prop} (h : IsS94 w0 W g f0 f1 f2) (hk : Kept W W1 S) (hne : ¬ S g) : IsS94 w0 W1 g f0 f1 f2 := by
 obtain ⟨A0, c0, hb, hg, hr0⟩ := h; exact ⟨A0, c0, blk_kept hb hk hne, hg, hr0⟩
theorem IsS94.below {w0 W : World} {g : Nat} {f0 : List Int} {f1 : Int} {f2 : Int} {W1 : World} (h : IsS94 w0 W g f0 f1 f2) (hw : Below W.heap.size W W1) : IsS94 w0 W1 g f0 f1 f2 := h.grown (grown_of_below hw none) (by simp)
theorem IsS94.alloc {w0 W : World} {g : Nat} {f0 : List Int} {f1 : Int} {f2 : Int} (h : IsS94 w0 W g f0 f1 f2) (o : Obj) : IsS94 w0 (W.alloc o) g f0 f1 f2 := h.below (below_alloc (Below.refl _ _) o)
theorem IsS94.drewN {w0 W : World} {g : Nat} {f0 : List Int} {f1 : Int} {f2 : Int} (h : IsS94 w0 W g f0 f1 f2) (m : Nat) : IsS94 w0 (W.drewN m) g f0 f1 f2 := h
theorem IsS94.drew {w0 W : World} {g : Nat} {f0 : List Int} {f1 : Int} {f2 : Int} (h : IsS94 w0 W g f0 f1 f2) : IsS94 w0 W.drew g f0 f1 f2 := h
theorem IsS94.at_ {w0 W : World} {g : Nat} {f0 : List Int} {f1 : Int} {f2 : Int} {w' : World} {m : Nat} (hq : W.drewN m = w') (h : IsS94 w0 W g f0 f1 f2) : IsS94 w0 w' g f0 f1 f2 := by subst hq; exact IsS94.drewN h m
theorem IsS94.apart {w0 W : World} {g : Nat} {f0 : List Int} {f1 : Int} {f2 : Int} {α : Type} {d : Kd α} {e : Nat} {base : Nat} {ok : Nat → Prop} {v : Value} {xs : List α} (h : IsS94 w0 W g f0 f1 f2) (ho : d.R e W base ok v xs) (ht : ∀ q, q ∈ e :: d.E → q ≠ 94) : d.R e W base (fun k => ok k ∧ k ≠ g) v xs := by
 obtain ⟨A0, c0, hb, hg, hr0⟩ := h; exact Kd.R_types ho hb ht
theorem IsS94.own_ne {w0 W : World} {g : Nat} {f0 : List Int} {f1 : Int} {f2 : Int} {α : Type} {d : Kd α} {e : Nat} {base : Nat} {ok : Nat → Prop} {v : Value} {xs : List α} (h : IsS94 w0 W g f0 f1 f2) (ho : d.R e W base ok v xs) (ht : e ≠ 94) : some g ≠ v.ownBlock := by
 obtain ⟨A0, c0, hb, hg, hr0⟩ := h; exact Kd.R_ne ho hb ht
theorem IsS94.apartQ {w0 W : World} {g : Nat} {f0 : List Int} {f1 : Int} {f2 : Int} {α : Type} {d : Kd α} {e : Nat} {base : Nat} {ok : Nat → Prop} {v : Value} {xs : List α} (h : IsS94 w0 W g f0 f1 f2) (ho : d.Q e W base ok v xs) (ht : ∀ q, q ∈ e :: d.E → q ≠ 94) : d.Q e W base (fun k => ok k ∧ k ≠ g) v xs := by
 obtain ⟨A0, c0, hb, hg, hr0⟩ := h; exact Kd.Q_types ho hb ht
theorem IsS94.own_neQ {w0 W : World} {g : Nat} {f0 : List Int} {f1 : Int} {f2 : Int} {α : Type} {d : Kd α} {e : Nat} {base : Nat} {ok : Nat → Prop} {v : Value} {xs : List α} (h : IsS94 w0 W g f0 f1 f2) (ho : d.Q e W base ok v xs) (ht : e ≠ 94) : some g ≠ v.ownBlock := by
 obtain ⟨A0, c0, hb, hg, hr0⟩ := h; exact Kd.Q_ne ho hb ht
theorem IsS94.apartS {w0 W : World} {g : Nat} {f0 : List Int} {f1 : Int} {f2 : Int} {α : Type} {d : Kd α} {e : Nat} {base : Nat} {ok : Nat → Prop} {v : Value} {xs : List α} (h : IsS94 w0 W g f0 f1 f2) (ho : d.S e W base ok v xs) (ht : ∀ q, q ∈ e :: d.E → q ≠ 94) : d.S e W base (fun k => ok k ∧ k ≠ g) v xs := by
 obtain ⟨A0, c0, hb, hg, hr0⟩ := h; exact Kd.S_types ho hb ht
theorem IsS94.own_neS {w0 W : World} {g : Nat} {f0 : List Int} {f1 : Int} {f2 : Int} {α : Type} {d : Kd α} {e : Nat} {base : Nat} {ok : Nat → Prop} {v : Value} {xs : List α} (h : IsS94 w0 W g f0 f1 f2) (ho : d.S e W base ok v xs) (ht : e ≠ 94) : some g ≠ v.ownBlock := by
 obtain ⟨A0, c0, hb, hg, hr0⟩ := h; exact Kd.S_ne ho hb ht
theorem IsS94.lt {w0 W : World} {g : Nat} {f0 : List Int} {f1 : Int} {f2 : Int} (h : IsS94 w0 W g f0 f1 f2) : g < W.heap.size := by
 obtain ⟨A0, c0, hb, hg, hr0⟩ := h; exact blk_lt hb
theorem IsS94.ge {w0 W : World} {g : Nat} {f0 : List Int} {f1 : Int} {f2 : Int} (h : IsS94 w0 W g f0 f1 f2) : w0.heap.size ≤ g := by
 obtain ⟨A0, c0, hb, hg, hr0⟩ := h; exact hg
theorem IsS94.ne_blk {w0 W : World} {g : Nat} {f0 : List Int} {f1 : Int} {f2 : Int} {a : Nat} {cs : Array Value} {t : TypeId} {fr : Nat × Nat} (h : IsS94 w0 W g f0 f1 f2) (hb2 : W.heap[a]? = some (.cells cs t fr)) (ht : t ≠ 94) : g ≠ a := by
 obtain ⟨A0, c0, hb, hg, hr0⟩ := h; rintro rfl; rw [hb] at hb2; injection hb2 with hb2; injection hb2 with _ ht2; exact ht ht2.symm
theorem IsS94.far {w0 W : World} {g : Nat} {f0 : List Int} {f1 : Int} {f2 : Int} {p : Addr} (h : IsS94 w0 W g f0 f1 f2) (hne : g ≠ p.block) (u : Value) : IsS94 w0 (W.setCell p u) g f0 f1 f2 := by
 obtain ⟨A0, c0, hb, hg, hr0⟩ := h; exact ⟨A0, c0, blk_far hb hne u, hg, hr0⟩
theorem cellS94_0 {W : World} {g : Nat} {A0 : Option Addr} {c0 : Nat} {f0 : List Int} {f1 : Int} {f2 : Int} (h : W.heap[g]? = some (.cells #[.slice A0 f0.length c0, .int .i64 f1, .int .i64 f2] 94 (0, 0))) : W.cell? ⟨g, 0, none⟩ = some (.slice A0 f0.length c0) := (blk_cell h 0).trans rfl
theorem cellS94_1 {W : World} {g : Nat} {A0 : Option Addr} {c0 : Nat} {f0 : List Int} {f1 : Int} {f2 : Int} (h : W.heap[g]? = some (.cells #[.slice A0 f0.length c0, .int .i64 f1, .int .i64 f2] 94 (0, 0))) : W.cell? ⟨g, 1, none⟩ = some (.int .i64 f1) := (blk_cell h 1).trans rfl
theorem IsS94.set_1 {w0 W : World} {g : Nat} {f0 : List Int} {f1 : Int} {f2 : Int} (h : IsS94 w0 W g f0 f1 f2) (x : Int) : IsS94 w0 (W.setCell ⟨g, 1, none⟩ (.int .i64 x)) g f0 x f2 := by
 obtain ⟨A0, c0, hb, hg, hr0⟩ := h; exact ⟨A0, c0, by simpa using blk_set hb 1 (.int .i64 x), hg, hr0⟩
theorem cellS94_2 {W : World} {g : Nat} {A0 : Option Addr} {c0 : Nat} {f0 : List Int} {f1 : Int} {f2 : Int} (h : W.heap[g]? = some (.cells #[.slice A0 f0.length c0, .int .i64 f1, .int .i64 f2] 94 (0, 0))) : W.cell? ⟨g, 2, none⟩ = some (.int .i64 f2) := (blk_cell h 2).trans rfl
theorem IsS94.set_2 {w0 W : World} {g : Nat} {f0 : List Int} {f1 : Int} {f2 : Int} (h : IsS94 w0 W g f0 f1 f2) (x : Int) : IsS94 w0 (W.setCell ⟨g, 2, none⟩ (.int .i64 x)) g f0 f1 x := by
 obtain ⟨A0, c0, hb, hg, hr0⟩ := h; exact ⟨A0, c0, by simpa using blk_set hb 2 (.int .i64 x), hg, hr0⟩
theorem IsS94.new (w0 W : World) (A0 : Option Addr) (c0 : Nat) (f0 : List Int) (f1 : Int) (f2 : Int) (hB : Below w0.heap.size w0 W) (hr0 : Kd.C (Kd.int .u8) w0 A0 f0.length f0) : IsS94 w0 (W.alloc (.cells #[.slice A0 f0.length c0, .int .i64 f1, .int .i64 f2] 94)) W.heap.size f0 f1 f2 := ⟨A0, c0, by simpa using heap_alloc_new W _, hB.size, hr0⟩

/-! ### spec_l1New: function 70 -/
def spec_l1New.l0 : Nat → List Int → Int → Int → Option (List Int × Int × Int)
 | 0, _, _, _ => none
 | k + 1, x0, x3, x4 => if x4 < (x0.length : Int) then (if 0 ≤ x4 then (spec_l1New.l0 k x0 (Go.bits .and .i64 (wrap64 ((wrap64 ((wrap64 (x3 * 139)) + (wrap64 (rd x0 x4)))) + 13)) 1073741823) (wrap64 (x4 + 1))) else (none)) else (some (x0, 0, x3))
def spec_l1New.f (k : Nat) (l0 : List Int) : Option (List Int × Int × Int) := spec_l1New.l0 k l0 (wrap64 (57731 + (l0.length : Int))) 0
theorem spec_l1New.mono_l : ∀ k, (∀ y0 y1 y2, LeO (spec_l1New.l0 k y0 y1 y2) (spec_l1New.l0 (k + 1) y0 y1 y2))
 | 0 => fun _ _ _ r h => by simp [spec_l1New.l0] at h
 | k + 1 => by
  have ih0 := spec_l1New.mono_l k
  ·intro y0 y1 y2; unfold spec_l1New.l0
   repeat' first
   | (with_reducible exact ih0 _ _ _)
   | (with_reducible exact LeO.refl _)
   | (with_reducible exact LeO.none _)
   | (with_reducible refine LeO.ite ?_ ?_)
   | (with_reducible refine LeO.bind ?_ (fun _ => ?_))
   | exact ih0 _ _ _
   | exact LeO.none _
   | refine LeO.ite ?_ ?_
   | refine LeO.bind ?_ (fun _ => ?_)
theorem spec_l1New.mono : ∀ a0 k, LeO (spec_l1New.f k a0) (spec_l1New.f (k + 1) a0) := by
 intro a0 k; have ih0 := spec_l1New.mono_l k; unfold spec_l1New.f
 repeat' first
   | (with_reducible exact ih0 _ _ _)
   | (with_reducible exact LeO.refl _)
   | (with_reducible exact LeO.none _)
   | (with_reducible refine LeO.ite ?_ ?_)
   | (with_reducible refine LeO.bind ?_ (fun _ => ?_))
   | exact ih0 _ _ _
   | exact LeO.none _
   | refine LeO.ite ?_ ?_
   | refine LeO.bind ?_ (fun _ => ?_)
set_option maxHeartbeats 8000000 in
set_option maxRecDepth 100000 in
theorem spec_l1New.calls (k : Nat) (A0 : Option Addr) (c0 : Nat) (l0 : List Int) (r1 : List Int) (r2 : Int) (r3 : Int) (w0 w : World) (hB : Below w0.heap.size w0 w) (hr0 : Kd.C (Kd.int .u8) w0 A0 l0.length l0) (hc0 : l0.length ≤ c0) (h : spec_l1New.f k l0 = some (r1, r2, r3)) :
  Calls Try.prog 70 #[.slice A0 l0.length c0] w fun e w' => ∃ g_ : Nat, e = .returned (.pointer (some ⟨g_, 0, none⟩)) ∧ IsS94 w0 w' g_ r1 r2 r3 ∧ Below w0.heap.size w0 w' ∧ Below w.heap.size w w' := by
 have hu94 := Try.underlying94; have HR0 := Aside0.mk hr0; have HC0 := Aside0.mk hc0; clear hr0 hc0; have HBW := Aside0.mk (Below.refl w.heap.size w); have HW0 := Aside0.mk hB.size; have HB := Aside0.mk hB; clear hB; have H : (spec_l1New.l0 k l0 (wrap64 (57731 + (l0.length : Int))) 0) = some (r1, r2, r3) := h; clear h; have H' := Aside0.mk H; clear H; go_enter Try.func70, Try.ntmps70; go_wp2; go_loopg [3, 4] k (fun kq v3 v4 w' => ∃ (x3_1 : Int) (x4_1 : Int), v3 = .int .i64 x3_1 ∧ v4 = .int .i64 x4_1 ∧ Aside0 (spec_l1New.l0 kq l0 x3_1 x4_1 = some (r1, r2, r3)) ∧ Aside0 (kq ≤ k) ∧ Aside0 (Below w0.heap.size w0 w') ∧ Aside0 (Below w.heap.size w w')); (case atStart => exact ⟨(wrap64 (57731 + (l0.length : Int))), (0), zbb0, zbb0, H', ⟨Nat.le_refl _⟩, ⟨zbb3⟩, ⟨zbb4⟩⟩); case round =>
  clear H'; obtain ⟨x3_1, x4_1, rfl, rfl, HA, HK1, HB, HBW⟩ := hrel
  cases gk with
  | zero => exact absurd HA.out (by simp [spec_l1New.l0])
  | succ k1 =>
   have H := HA.out; clear HA; simp only [spec_l1New.l0] at H; by_cases c2 : x4_1 < (l0.length : Int)
   ·rw [if_pos c2] at H; have c2b0 : decide (x4_1 < (l0.length : Int)) = true := decide_eq_true c2; clear c2; by_cases c3 : 0 ≤ x4_1
    ·rw [if_pos c3] at H; have c3b0 : decide (0 ≤ x4_1) = true := decide_eq_true c3; clear c3; have H' := Aside0.mk H; clear H; have p270 : 0 ≤ (x4_1 : Int) := of_decide_eq_true zbb2; have q270 : x4_1 < (l0.length : Int) := of_decide_eq_true zbb2; obtain ⟨ad270, e270, hx270_0⟩ := Kd.at_int HR0.out x4_1 p270 q270; cases e270; replace hx270_0 := pw_cell_below HB.out hx270_0; replace p270 := eq_true p270; replace q270 := eq_true q270; go_wp2; go_roundg k1; (case measure => have := HK1.out; omega); case rel => exact ⟨(Go.bits .and .i64 (wrap64 ((wrap64 ((wrap64 (x3_1 * 139)) + (wrap64 (rd l0 x4_1)))) + 13)) 1073741823), (wrap64 (x4_1 + 1)), zbb0, zbb0, H', ⟨by have := HK1.out; omega⟩, ⟨zbb3⟩, ⟨zbb4⟩⟩
    ·rw [if_neg c3] at H; exact absurd H (by simp)
   ·rw [if_neg c2] at H; have c2b0 : decide (x4_1 < (l0.length : Int)) = false := decide_eq_false c2; clear c2; simp only [Option.some.injEq, Prod.mk.injEq] at H; obtain ⟨rfl, rfl, rfl⟩ := H; go_wp2_with (first | ((with_reducible refine gate_dst (N := 27) rfl ?_); refine box_event ?hg (N := 27) ?hd (cs := #[.slice A0 l0.length c0, .int .i64 0, .int .i64 x3_1]) (t := 94) ?hr ?_; (case hd => rfl); (case hg => rfl); (case hr => first | (go_simp; done) | (go_simp; rfl)); intro gb271 hg w4 hbox hb; replace HB := Aside0.mk (below_step qB hb); have BK271 := Aside0.mk (hbox); have GW271 := Aside0.mk ((by rw [hg]; exact (below_size zbb4) : w.heap.size ≤ gb271)); have GE271 := Aside0.mk ((Nat.le_trans HW0.out (by rw [hg]; exact (below_size zbb4) : w.heap.size ≤ gb271) : w0.heap.size ≤ gb271)); replace HBW := Aside0.mk (below_step HBW.out hb); clear hb hbox hg)); go_ret; exact ⟨_, rfl, (show IsS94 w0 _ gb271 l0 0 x3_1 from ⟨_, _, by (with_reducible repeat (first | refine blk_drewN ?_ _ | refine blk_drew ?_ | refine blk_alloc ?_ _)); exact BK271.out, GE271.out, HR0.out⟩), by repeat (first | (with_reducible first | exact HB.out | apply below_alloc | apply pw_below_drewN | apply below_drew1 | refine below_set ?_ GE271.out) | exact HB.out), by repeat (first | (with_reducible first | exact HBW.out | apply below_alloc | apply pw_below_drewN | apply below_drew1 | refine below_set ?_ GW271.out) | exact HBW.out)⟩

/-! ### spec_l1Byte: function 83 -/
def spec_l1Byte.f (s0_0 : List Int) (s0_1 : Int) (s0_2 : Int) : Option (Int × Int × Int) := if s0_1 < (s0_0.length : Int) then (if 0 ≤ s0_1 then (some (Go.bits .and .i64 (wrap64 ((Go.bits .and .i64 (Go.bits .xor .i64 ((wrap64 ((wrap64 (s0_2 * 6364136223846793005)) + 1442695040888963407)) / 8589934592) ((wrap64 ((wrap64 (s0_2 * 6364136223846793005)) + 1442695040888963407)) / 35184372088832)) 255) + (wrap64 (rd s0_0 s0_1)))) 255, wrap64 (s0_1 + 1), wrap64 ((wrap64 (s0_2 * 6364136223846793005)) + 1442695040888963407))) else (none)) else (some (Go.bits .and .i64 (Go.bits .xor .i64 ((wrap64 ((wrap64 (s0_2 * 6364136223846793005)) + 1442695040888963407)) / 8589934592) ((wrap64 ((wrap64 (s0_2 * 6364136223846793005)) + 1442695040888963407)) / 35184372088832)) 255, s0_1, wrap64 ((wrap64 (s0_2 * 6364136223846793005)) + 1442695040888963407)))
set_option maxHeartbeats 8000000 in
set_option maxRecDepth 100000 in
theorem spec_l1Byte.calls (g : Nat) (s0_0 : List Int) (s0_1 : Int) (s0_2 : Int) (r1 : Int) (r2 : Int) (r3 : Int) (w0 w : World) (hI : IsS94 w0 w g s0_0 s0_1 s0_2) (hB : Below w0.heap.size w0 w) (h : spec_l1Byte.f s0_0 s0_1 s0_2 = some (r1, r2, r3)) :
  Calls Try.prog 83 #[.pointer (some ⟨g, 0, none⟩)] w fun e w' => e = .returned (.int .i64 r1) ∧ IsS94 w0 w' g s0_0 r2 r3 ∧ Below w0.heap.size w0 w' ∧ KeepBut w w' g none := by
 have HI0 := Aside0.mk hI; have HK := Aside0.mk (KeepBut.refl w g none); have HL := Aside0.mk hB.size; clear hI; have HW0 := Aside0.mk hB.size; have HB := Aside0.mk hB; clear hB; have H : (if s0_1 < (s0_0.length : Int) then (if 0 ≤ s0_1 then (some (Go.bits .and .i64 (wrap64 ((Go.bits .and .i64 (Go.bits .xor .i64 ((wrap64 ((wrap64 (s0_2 * 6364136223846793005)) + 1442695040888963407)) / 8589934592) ((wrap64 ((wrap64 (s0_2 * 6364136223846793005)) + 1442695040888963407)) / 35184372088832)) 255) + (wrap64 (rd s0_0 s0_1)))) 255, wrap64 (s0_1 + 1), wrap64 ((wrap64 (s0_2 * 6364136223846793005)) + 1442695040888963407))) else (none)) else (some (Go.bits .and .i64 (Go.bits .xor .i64 ((wrap64 ((wrap64 (s0_2 * 6364136223846793005)) + 1442695040888963407)) / 8589934592) ((wrap64 ((wrap64 (s0_2 * 6364136223846793005)) + 1442695040888963407)) / 35184372088832)) 255, s0_1, wrap64 ((wrap64 (s0_2 * 6364136223846793005)) + 1442695040888963407)))) = some (r1, r2, r3) := h; clear h; by_cases c2 : s0_1 < (s0_0.length : Int)
 ·rw [if_pos c2] at H; have c2b0 : decide (s0_1 < (s0_0.length : Int)) = true := decide_eq_true c2; clear c2; by_cases c3 : 0 ≤ s0_1
  ·rw [if_pos c3] at H; have c3b0 : decide (0 ≤ s0_1) = true := decide_eq_true c3; clear c3; simp only [Option.some.injEq, Prod.mk.injEq] at H; obtain ⟨rfl, rfl, rfl⟩ := H; obtain ⟨ASz4_0, cSz4_0, HGz4, hgz4, HSz4_0⟩ := HI0.out; have hcz4_0 := cellS94_0 HGz4; have hcz4_1 := cellS94_1 HGz4; have hcz4_2 := cellS94_2 HGz4; have hfz4_1 := blk_frozen HGz4 1; have hfz4_2 := blk_frozen HGz4 2; clear HGz4 hgz4; have p272 : 0 ≤ (s0_1 : Int) := of_decide_eq_true zbb2; have q272 : s0_1 < (s0_0.length : Int) := of_decide_eq_true zbb2; obtain ⟨ad272, e272, hx272_0⟩ := Kd.at_int HSz4_0 s0_1 p272 q272; cases e272; have hn272_0 : ad272.block ≠ g := Nat.ne_of_lt (Nat.lt_of_lt_of_le (by have := World.block_lt_of_cell? _ _ hx272_0; first | rwa [add_block] at this | exact this) (IsS94.ge HI0.out)); replace hx272_0 := pw_cell_below HB.out hx272_0; replace hx272_0 := (cell_far (p := ⟨g, 2, none⟩) (by first | (rw [add_block]; exact hn272_0) | (show (Addr.add _ _).block ≠ _; rw [add_block]; exact hn272_0) | exact hn272_0) (.int .i64 (wrap64 ((wrap64 (s0_2 * 6364136223846793005)) + 1442695040888963407)))).trans hx272_0; (try have hy272_0 := fun (n_ : Nat) => (show (((w.drewN n_).setCell ⟨g, 2, none⟩ (.int .i64 (wrap64 ((wrap64 (s0_2 * 6364136223846793005)) + 1442695040888963407))))).cell? _ = some _ from hx272_0)); clear hn272_0; replace p272 := eq_true p272; replace q272 := eq_true q272; go_enter Try.func83, Try.ntmps83; go_wp2; (repeat (go_quiet (fail); try go_wp2)); go_ret; exact ⟨zbb5, zbb6, zbb7, zbb8⟩
  ·rw [if_neg c3] at H; exact absurd H (by simp)
 ·rw [if_neg c2] at H; have c2b0 : decide (s0_1 < (s0_0.length : Int)) = false := decide_eq_false c2; clear c2; simp only [Option.some.injEq, Prod.mk.injEq] at H; obtain ⟨rfl, rfl, rfl⟩ := H; obtain ⟨ASz5_0, cSz5_0, HGz5, hgz5, HSz5_0⟩ := HI0.out; have hcz5_0 := cellS94_0 HGz5; have hcz5_1 := cellS94_1 HGz5; have hcz5_2 := cellS94_2 HGz5; have hfz5_1 := blk_frozen HGz5 1; have hfz5_2 := blk_frozen HGz5 2; clear HGz5 hgz5; go_enter Try.func83, Try.ntmps83; go_wp2; (repeat (go_quiet (fail); try go_wp2)); go_ret; exact ⟨zbb5, zbb6, zbb7, zbb8⟩

/-! ### spec_l1Below: function 74 -/
def spec_l1Below.f (s0_0 : List Int) (s0_1 : Int) (s0_2 : Int) (a1 : Int) : Option (Int × Int × Int) := if a1 ≤ 0 then (some (0, s0_1, s0_2)) else (if a1 ≤ 256 then ((spec_l1Byte.f s0_0 s0_1 s0_2).bind fun bt273 => (if a1 = 0 then (none) else (some (Int.tmod bt273.1 a1, bt273.2.1, bt273.2.2)))) else ((spec_l1Byte.f s0_0 s0_1 s0_2).bind fun bt276 => ((spec_l1Byte.f s0_0 bt276.2.1 bt276.2.2).bind fun bt279 => ((spec_l1Byte.f s0_0 bt279.2.1 bt279.2.2).bind fun bt282 => ((spec_l1Byte.f s0_0 bt282.2.1 bt282.2.2).bind fun bt285 => (if a1 = 0 then (none) else (some (Int.tmod (wrap64 ((wrap64 ((wrap64 ((wrap64 (bt276.1 * 16777216)) + (wrap64 (bt279.1 * 65536)))) + (wrap64 (bt282.1 * 256)))) + bt285.1)) a1, bt285.2.1, bt285.2.2))))))))
set_option maxHeartbeats 8000000 in
set_option maxRecDepth 100000 in
theorem spec_l1Below.calls (g : Nat) (s0_0 : List Int) (s0_1 : Int) (s0_2 : Int) (a1 : Int) (r1 : Int) (r2 : Int) (r3 : Int) (w0 w : World) (hI : IsS94 w0 w g s0_0 s0_1 s0_2) (hB : Below w0.heap.size w0 w) (h : spec_l1Below.f s0_0 s0_1 s0_2 a1 = some (r1, r2, r3)) :
  Calls Try.prog 74 #[.pointer (some ⟨g, 0, none⟩), .int .i64 a1] w fun e w' => e = .returned (.int .i64 r1) ∧ IsS94 w0 w' g s0_0 r2 r3 ∧ Below w0.heap.size w0 w' ∧ KeepBut w w' g none := by
 have HI0 := Aside0.mk hI; have HK := Aside0.mk (KeepBut.refl w g none); have HL := Aside0.mk hB.size; clear hI; have HW0 := Aside0.mk hB.size; have HB := Aside0.mk hB; clear hB; have H : (if a1 ≤ 0 then (some (0, s0_1, s0_2)) else (if a1 ≤ 256 then ((spec_l1Byte.f s0_0 s0_1 s0_2).bind fun bt273 => (if a1 = 0 then (none) else (some (Int.tmod bt273.1 a1, bt273.2.1, bt273.2.2)))) else ((spec_l1Byte.f s0_0 s0_1 s0_2).bind fun bt276 => ((spec_l1Byte.f s0_0 bt276.2.1 bt276.2.2).bind fun bt279 => ((spec_l1Byte.f s0_0 bt279.2.1 bt279.2.2).bind fun bt282 => ((spec_l1Byte.f s0_0 bt282.2.1 bt282.2.2).bind fun bt285 => (if a1 = 0 then (none) else (some (Int.tmod (wrap64 ((wrap64 ((wrap64 ((wrap64 (bt276.1 * 16777216)) + (wrap64 (bt279.1 * 65536)))) + (wrap64 (bt282.1 * 256)))) + bt285.1)) a1, bt285.2.1, bt285.2.2))))))))) = some (r1, r2, r3) := h; clear h; by_cases c3 : a1 ≤ 0
 ·rw [if_pos c3] at H; have c3b0 : decide (a1 ≤ 0) = true := decide_eq_true c3; clear c3; simp only [Option.some.injEq, Prod.mk.injEq] at H; obtain ⟨rfl, rfl, rfl⟩ := H; go_enter Try.func74, Try.ntmps74; go_wp2; go_ret; exact ⟨zbb5, zbb6, zbb7, zbb8⟩
 ·rw [if_neg c3] at H; have c3b0 : decide (a1 ≤ 0) = false := decide_eq_false c3; clear c3; by_cases c4 : a1 ≤ 256
  ·rw [if_pos c4] at H; have c4b0 : decide (a1 ≤ 256) = true := decide_eq_true c4; clear c4; replace H := Option.bind_eq_some_iff.mp H; obtain ⟨⟨t273, t274, t275⟩, A50, H⟩ := H; dsimp only at H; have A5 := Aside0.mk A50; clear A50; by_cases c6 : a1 = 0
   ·rw [if_pos c6] at H; exact absurd H (by simp)
   ·rw [if_neg c6] at H; have c6b0 : (a1 == 0) = false := beq_eq_false_iff_ne.mpr c6; have c6b1 : (a1 != 0) = true := bne_iff_ne.mpr c6; simp only [Option.some.injEq, Prod.mk.injEq] at H; obtain ⟨rfl, rfl, rfl⟩ := H; go_enter Try.func74, Try.ntmps74; go_wp2_with (first | ((with_reducible refine gate_callee (f := 83) rfl ?_); refine goesL_ (some 14) rfl rfl Try.func83 (by kernel_rfl) rfl #[.pointer (some ⟨g, 0, none⟩)] rfl zbb9 ?_; (with_reducible refine (spec_l1Byte.calls g s0_0 s0_1 s0_2 t273 t274 t275 w0 _ ?side1 ?side2 A5.out).mono ?_); (case side1 => exact zbb6); (case side2 => exact zbb7); rintro e w7 ⟨rfl, hi, hb, hk⟩; refine ⟨_, rfl, ?_⟩; replace HK := Aside0.mk (KeepBut.trans zbb8 hk (.inl rfl)); replace HB := Aside0.mk (hb); replace HI0 := Aside0.mk (hi); (try clear hb); (try clear hb2); (try clear hk); (try clear hi))); go_ret; exact ⟨zbb5, zbb6, zbb7, zbb8⟩
  ·rw [if_neg c4] at H; have c4b0 : decide (a1 ≤ 256) = false := decide_eq_false c4; clear c4; replace H := Option.bind_eq_some_iff.mp H; obtain ⟨⟨t276, t277, t278⟩, A80, H⟩ := H; dsimp only at H; have A8 := Aside0.mk A80; clear A80; replace H := Option.bind_eq_some_iff.mp H; obtain ⟨⟨t279, t280, t281⟩, A90, H⟩ := H; dsimp only at H; have A9 := Aside0.mk A90; clear A90; replace H := Option.bind_eq_some_iff.mp H; obtain ⟨⟨t282, t283, t284⟩, A100, H⟩ := H; dsimp only at H; have A10 := Aside0.mk A100; clear A100; replace H := Option.bind_eq_some_iff.mp H; obtain ⟨⟨t285, t286, t287⟩, A110, H⟩ := H; dsimp only at H; have A11 := Aside0.mk A110; clear A110; by_cases c12 : a1 = 0
   ·rw [if_pos c12] at H; exact absurd H (by simp)
   ·rw [if_neg c12] at H; have c12b0 : (a1 == 0) = false := beq_eq_false_iff_ne.mpr c12; have c12b1 : (a1 != 0) = true := bne_iff_ne.mpr c12; simp only [Option.some.injEq, Prod.mk.injEq] at H; obtain ⟨rfl, rfl, rfl⟩ := H; go_enter Try.func74, Try.ntmps74; go_wp2_with (first | ((with_reducible refine gate_callee (f := 83) rfl ?_); refine goesL_ (some 18) rfl rfl Try.func83 (by kernel_rfl) rfl #[.pointer (some ⟨g, 0, none⟩)] rfl zbb9 ?_; (with_reducible refine (spec_l1Byte.calls g s0_0 s0_1 s0_2 t276 t277 t278 w0 _ ?side1 ?side2 A8.out).mono ?_); (case side1 => exact zbb6); (case side2 => exact zbb7); rintro e w13 ⟨rfl, hi, hb, hk⟩; refine ⟨_, rfl, ?_⟩; replace HK := Aside0.mk (KeepBut.trans zbb8 hk (.inl rfl)); replace HB := Aside0.mk (hb); replace HI0 := Aside0.mk (hi); (try clear hb); (try clear hb2); (try clear hk); (try clear hi)) | ((with_reducible refine gate_callee (f := 83) rfl ?_); refine goesL_ (some 20) rfl rfl Try.func83 (by kernel_rfl) rfl #[.pointer (some ⟨g, 0, none⟩)] rfl zbb9 ?_; (with_reducible refine (spec_l1Byte.calls g s0_0 t277 t278 t279 t280 t281 w0 _ ?side1 ?side2 A9.out).mono ?_); (case side1 => exact zbb6); (case side2 => exact zbb7); rintro e w14 ⟨rfl, hi, hb, hk⟩; refine ⟨_, rfl, ?_⟩; replace HK := Aside0.mk (KeepBut.trans zbb8 hk (.inl rfl)); replace HB := Aside0.mk (hb); replace HI0 := Aside0.mk (hi); (try clear hb); (try clear hb2); (try clear hk); (try clear hi)) | ((with_reducible refine gate_callee (f := 83) rfl ?_); refine goesL_ (some 22) rfl rfl Try.func83 (by kernel_rfl) rfl #[.pointer (some ⟨g, 0, none⟩)] rfl zbb9 ?_; (with_reducible refine (spec_l1Byte.calls g s0_0 t280 t281 t282 t283 t284 w0 _ ?side1 ?side2 A10.out).mono ?_); (case side1 => exact zbb6); (case side2 => exact zbb7); rintro e w15 ⟨rfl, hi, hb, hk⟩; refine ⟨_, rfl, ?_⟩; replace HK := Aside0.mk (KeepBut.trans zbb8 hk (.inl rfl)); replace HB := Aside0.mk (hb); replace HI0 := Aside0.mk (hi); (try clear hb); (try clear hb2); (try clear hk); (try clear hi)) | ((with_reducible refine gate_callee (f := 83) rfl ?_); refine goesL_ (some 24) rfl rfl Try.func83 (by kernel_rfl) rfl #[.pointer (some ⟨g, 0, none⟩)] rfl zbb9 ?_; (with_reducible refine (spec_l1Byte.calls g s0_0 t283 t284 t285 t286 t287 w0 _ ?side1 ?side2 A11.out).mono ?_); (case side1 => exact zbb6); (case side2 => exact zbb7); rintro e w16 ⟨rfl, hi, hb, hk⟩; refine ⟨_, rfl, ?_⟩; replace HK := Aside0.mk (KeepBut.trans zbb8 hk (.inl rfl)); replace HB := Aside0.mk (hb); replace HI0 := Aside0.mk (hi); (try clear hb); (try clear hb2); (try clear hk); (try clear hi))); go_ret; exact ⟨zbb5, zbb6, zbb7, zbb8⟩

/-! ### spec_l1Once: function 73 -/
def spec_l1Once.f (s0_0 : List Int) (s0_1 : Int) (s0_2 : Int) (a1 : Int) : Option (Bool × Int × Int) := (spec_l1Below.f s0_0 s0_1 s0_2 a1).bind fun bt288 => (some ((bt288.1 == 0), bt288.2.1, bt288.2.2))
set_option maxHeartbeats 8000000 in
set_option maxRecDepth 100000 in
theorem spec_l1Once.calls (g : Nat) (s0_0 : List Int) (s0_1 : Int) (s0_2 : Int) (a1 : Int) (r1 : Bool) (r2 : Int) (r3 : Int) (w0 w : World) (hI : IsS94 w0 w g s0_0 s0_1 s0_2) (hB : Below w0.heap.size w0 w) (h : spec_l1Once.f s0_0 s0_1 s0_2 a1 = some (r1, r2, r3)) :
  Calls Try.prog 73 #[.pointer (some ⟨g, 0, none⟩), .int .i64 a1] w fun e w' => e = .returned (.bool r1) ∧ IsS94 w0 w' g s0_0 r2 r3 ∧ Below w0.heap.size w0 w' ∧ KeepBut w w' g none := by
 have HI0 := Aside0.mk hI; have HK := Aside0.mk (KeepBut.refl w g none); have HL := Aside0.mk hB.size; clear hI; have HW0 := Aside0.mk hB.size; have HB := Aside0.mk hB; clear hB; have H : ((spec_l1Below.f s0_0 s0_1 s0_2 a1).bind fun bt288 => (some ((bt288.1 == 0), bt288.2.1, bt288.2.2))) = some (r1, r2, r3) := h; clear h; replace H := Option.bind_eq_some_iff.mp H; obtain ⟨⟨t288, t289, t290⟩, A30, H⟩ := H; dsimp only at H; have A3 := Aside0.mk A30; clear A30; simp only [Option.some.injEq, Prod.mk.injEq] at H; obtain ⟨rfl, rfl, rfl⟩ := H; go_enter Try.func73, Try.ntmps73; go_wp2_with (first | ((with_reducible refine gate_callee (f := 74) rfl ?_); refine goesL_ (some 7) rfl rfl Try.func74 (by kernel_rfl) rfl #[.pointer (some ⟨g, 0, none⟩), .int .i64 a1] rfl zbb9 ?_; (with_reducible refine (spec_l1Below.calls g s0_0 s0_1 s0_2 a1 t288 t289 t290 w0 _ ?side1 ?side2 A3.out).mono ?_); (case side1 => exact zbb6); (case side2 => exact zbb7); rintro e w4 ⟨rfl, hi, hb, hk⟩; refine ⟨_, rfl, ?_⟩; replace HK := Aside0.mk (KeepBut.trans zbb8 hk (.inl rfl)); replace HB := Aside0.mk (hb); replace HI0 := Aside0.mk (hi); (try clear hb); (try clear hb2); (try clear hk); (try clear hi))); go_ret; exact ⟨zbb5, zbb6, zbb7, zbb8⟩

/-! ### spec_l2Int: function 82 -/
def spec_l2Int.l0 : Nat → Int → ByteArray → Option (ByteArray)
 | 0, _, _ => none
 | k + 1, x0, x3 => if x0 > 9 then ((some (([(wrap64 (48 + (Int.tmod x0 10))) % 256] : List Int) : List Int)).bind fun y291 => (if (strOfNums y291).size + x3.size ≤ 9223372036854775807 then (spec_l2Int.l0 k (wrap64 (Int.tdiv x0 10)) ((strOfNums y291) ++ x3)) else (none))) else ((some (([(wrap64 (48 + x0)) % 256] : List Int) : List Int)).bind fun y294 => (if (strOfNums y294).size + x3.size ≤ 9223372036854775807 then (some ((strOfNums y294) ++ x3)) else (none)))
def spec_l2Int.f (k : Nat) (a0 : Int) : Option (ByteArray) := spec_l2Int.l0 k a0 (⟨#[]⟩ : ByteArray)
theorem spec_l2Int.mono_l : ∀ k, (∀ y0 y1, LeO (spec_l2Int.l0 k y0 y1) (spec_l2Int.l0 (k + 1) y0 y1))
 | 0 => fun _ _ r h => by simp [spec_l2Int.l0] at h
 | k + 1 => by
  have ih0 := spec_l2Int.mono_l k
  ·intro y0 y1; unfold spec_l2Int.l0
   repeat' first
   | (with_reducible exact ih0 _ _)
   | (with_reducible exact LeO.refl _)
   | (with_reducible exact LeO.none _)
   | (with_reducible refine LeO.ite ?_ ?_)
   | (with_reducible refine LeO.bind ?_ (fun _ => ?_))
   | exact ih0 _ _
   | exact LeO.none _
   | refine LeO.ite ?_ ?_
   | refine LeO.bind ?_ (fun _ => ?_)
theorem spec_l2Int.mono : ∀ a0 k, LeO (spec_l2Int.f k a0) (spec_l2Int.f (k + 1) a0) := by
 intro a0 k; have ih0 := spec_l2Int.mono_l k; unfold spec_l2Int.f
 repeat' first
   | (with_reducible exact ih0 _ _)
   | (with_reducible exact LeO.refl _)
   | (with_reducible exact LeO.none _)
   | (with_reducible refine LeO.ite ?_ ?_)
   | (with_reducible refine LeO.bind ?_ (fun _ => ?_))
   | exact ih0 _ _
   | exact LeO.none _
   | refine LeO.ite ?_ ?_
   | refine LeO.bind ?_ (fun _ => ?_)
set_option maxHeartbeats 8000000 in
set_option maxRecDepth 100000 in
theorem spec_l2Int.calls (k : Nat) (a0 : Int) (r : ByteArray) (w : World) (h : spec_l2Int.f k a0 = some r) :
  Calls Try.prog 82 #[.int .i64 a0] w fun e w' => e = .returned (.string r) ∧ Below w.heap.size w w' := by
 have HB := Aside0.mk (Below.refl w.heap.size w); have H : (spec_l2Int.l0 k a0 (⟨#[]⟩ : ByteArray)) = some r := h; clear h; have H' := Aside0.mk H; clear H; go_enter Try.func82, Try.ntmps82; go_wp2; go_loopg [0, 3] k (fun kq v0 v3 w' => ∃ (x0_1 : Int) (x3_1 : ByteArray), v0 = .int .i64 x0_1 ∧ v3 = .string x3_1 ∧ Aside0 (spec_l2Int.l0 kq x0_1 x3_1 = some r) ∧ Aside0 (kq ≤ k) ∧ Aside0 (Below w.heap.size w w')); (case atStart => exact ⟨(a0), ((⟨#[]⟩ : ByteArray)), zbb0, zbb0, H', ⟨Nat.le_refl _⟩, ⟨zbb3⟩⟩); case round =>
  clear H'; obtain ⟨x0_1, x3_1, rfl, rfl, HA, HK1, HB⟩ := hrel
  cases gk with
  | zero => exact absurd HA.out (by simp [spec_l2Int.l0])
  | succ k1 =>
   have H := HA.out; clear HA; simp only [spec_l2Int.l0] at H; by_cases c2 : x0_1 > 9
   ·rw [if_pos c2] at H; have c2b0 : decide (9 < x0_1) = true := decide_eq_true c2; clear c2; obtain ⟨y291, hy291⟩ : ∃ y_ : List Int, y_ = (([(wrap64 (48 + (Int.tmod x0_1 10))) % 256] : List Int)) := ⟨_, rfl⟩; replace H : (if (strOfNums y291).size + x3_1.size ≤ 9223372036854775807 then (spec_l2Int.l0 k1 (wrap64 (Int.tdiv x0_1 10)) ((strOfNums y291) ++ x3_1)) else (none)) = some r := by first | (rw [hy291]; with_reducible exact H) | (have H2_ := (Option.bind_some _ _).symm.trans H; rw [hy291]; with_reducible exact H2_) | (have H2_ := (Option.bind_some _ _).symm.trans H; with_reducible exact H2_) | with_reducible exact H | (rw [hy291]; exact H) | exact H
    have Ny291 := Aside0.mk hy291; clear hy291; by_cases c3 : (strOfNums y291).size + x3_1.size ≤ 9223372036854775807
    ·rw [if_pos c3] at H; have c3b0 := eq_true c3; have c3b1 : decide ((strOfNums y291).size + x3_1.size ≤ 9223372036854775807) = true := decide_eq_true c3; (try have c3b2 : (9223372036854775807 < (strOfNums y291).size + x3_1.size) = False := eq_false (Nat.not_lt.2 c3)); (try (have c3b3 := Nat.not_lt.2 c3; simp only [ByteArray.size_append, ByteArray.size_mk', List.size_toArray, List.length_cons, List.length_nil, Nat.zero_add, Nat.reduceAdd] at c3b3; replace c3b3 := eq_false c3b3)); have H' := Aside0.mk H; clear H; go_wp2_with (first | ((with_reducible refine gate_dst (N := 10) rfl ?_); refine Kd.R_lit (Kd.int .u8) _ 5 ?hg (N := 10) ?hd (xs := ([(wrap64 (48 + (Int.tmod x0_1 10))) % 256] : List Int)) (inner := [.int .u8 ((wrap64 (48 + (Int.tmod x0_1 10))) % 256)]) (ok := fun _ => True) (okp := fun _ => True) ?hr ?hp (fun _ hk => hk) trivial (Below.refl _ _) (Nat.le_refl _) (by simp) ?_; (case hd => rfl); (case hg => rfl); (case hr => first | (go_simp; done) | (go_simp; rfl)); (case hp => exact (Reps.one (show Kd.M (Kd.int .u8) _ _ _ ((wrap64 (48 + (Int.tmod x0_1 10))) % 256) [.int .u8 ((wrap64 (48 + (Int.tmod x0_1 10))) % 256)] from rfl) (Reps.none _ _))); intro v292 w4 ho5 hb hg_ hnew_; clear hg_ hnew_; (first | rw [← Ny291.out] at ho5 | (simp only [Int.reduceToNat] at ho5; rw [← Ny291.out] at ho5)); have HO293 := Aside0.mk (Kd.R_lower ho5 (below_size qB)); replace HB := Aside0.mk (below_step qB hb); clear hb ho5; have hcv6 := own_string (P := Try.prog) Try.underlying49 Try.underlying5 Try.underlying9 (Kd.own_of_R HO293.out))); go_roundg k1; (case measure => have := HK1.out; omega); case rel => exact ⟨(wrap64 (Int.tdiv x0_1 10)), ((strOfNums y291) ++ x3_1), zbb0, zbb0, H', ⟨by have := HK1.out; omega⟩, ⟨zbb3⟩⟩
    ·rw [if_neg c3] at H; exact absurd H (by simp)
   ·rw [if_neg c2] at H; have c2b0 : decide (9 < x0_1) = false := decide_eq_false c2; clear c2; obtain ⟨y294, hy294⟩ : ∃ y_ : List Int, y_ = (([(wrap64 (48 + x0_1)) % 256] : List Int)) := ⟨_, rfl⟩; replace H : (if (strOfNums y294).size + x3_1.size ≤ 9223372036854775807 then (some ((strOfNums y294) ++ x3_1)) else (none)) = some r := by first | (rw [hy294]; with_reducible exact H) | (have H2_ := (Option.bind_some _ _).symm.trans H; rw [hy294]; with_reducible exact H2_) | (have H2_ := (Option.bind_some _ _).symm.trans H; with_reducible exact H2_) | with_reducible exact H | (rw [hy294]; exact H) | exact H
    have Ny294 := Aside0.mk hy294; clear hy294; by_cases c7 : (strOfNums y294).size + x3_1.size ≤ 9223372036854775807
    ·rw [if_pos c7] at H; have c7b0 := eq_true c7; have c7b1 : decide ((strOfNums y294).size + x3_1.size ≤ 9223372036854775807) = true := decide_eq_true c7; (try have c7b2 : (9223372036854775807 < (strOfNums y294).size + x3_1.size) = False := eq_false (Nat.not_lt.2 c7)); (try (have c7b3 := Nat.not_lt.2 c7; simp only [ByteArray.size_append, ByteArray.size_mk', List.size_toArray, List.length_cons, List.length_nil, Nat.zero_add, Nat.reduceAdd] at c7b3; replace c7b3 := eq_false c7b3)); obtain rfl := Option.some.inj H; go_wp2_with (first | ((with_reducible refine gate_dst (N := 19) rfl ?_); refine Kd.R_lit (Kd.int .u8) _ 5 ?hg (N := 19) ?hd (xs := ([(wrap64 (48 + x0_1)) % 256] : List Int)) (inner := [.int .u8 ((wrap64 (48 + x0_1)) % 256)]) (ok := fun _ => True) (okp := fun _ => True) ?hr ?hp (fun _ hk => hk) trivial (Below.refl _ _) (Nat.le_refl _) (by simp) ?_; (case hd => rfl); (case hg => rfl); (case hr => first | (go_simp; done) | (go_simp; rfl)); (case hp => exact (Reps.one (show Kd.M (Kd.int .u8) _ _ _ ((wrap64 (48 + x0_1)) % 256) [.int .u8 ((wrap64 (48 + x0_1)) % 256)] from rfl) (Reps.none _ _))); intro v295 w8 ho9 hb hg_ hnew_; clear hg_ hnew_; (first | rw [← Ny294.out] at ho9 | (simp only [Int.reduceToNat] at ho9; rw [← Ny294.out] at ho9)); have HO296 := Aside0.mk (Kd.R_lower ho9 (below_size qB)); replace HB := Aside0.mk (below_step qB hb); clear hb ho9; have hcv10 := own_string (P := Try.prog) Try.underlying49 Try.underlying5 Try.underlying9 (Kd.own_of_R HO296.out))); go_ret; exact ⟨zbb5, zbb3⟩
    ·rw [if_neg c7] at H; exact absurd H (by simp)

end Go.Proofs.Ytnahkojlamficaa.PFnPlanReaches
