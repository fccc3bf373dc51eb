-- Laid by a program of this session: a turned copy of the kit's print, with contracts by hand beside.
import Derived.Test.YtnahkojlamficaaPFnFailingx0
import Derived.Test.YtnahkojlamficaaPFnFailingx2
import Derived.Test.YtnahkojlamficaaPFnFailingx5
namespace Go.Proofs.Ytnahkojlamficaa.PFnFailing
open Go.RowKit Go.Proofs.YtnahkojlamficaaW.PrintWords Go.Proofs.YtnahkojlamficaaW.PrintLast Go.Proofs.YtnahkojlamficaaW.PrintMore
theorem zg0 {X : Prop} (h : X := by (try simp only [List.map_toArray, List.map_cons, List.map_nil]); first | done | rfl | (simp only [List.length_drop, List.length_take]; rfl)) : X := h
theorem zg1 {X : Prop} (h : X := by repeat (first | exact (Kd.C_below HR0.out HB.out) | (with_reducible refine Kd.C_alloc ?_ _) | (with_reducible refine Kd.C_drewN ?_ _) | (with_reducible refine Kd.C_drew ?_))) : X := h
theorem zg2 {A0 X : Prop} (a0 : A0) (h : A0 → X := by intro a0_; (with_reducible repeat (first | apply Kd.R_alloc | apply Kd.R_drewN | apply Kd.R_drew)); exact a0_) : X := h a0
theorem zg3 {X : Prop} (h : X := by first | rfl | (simp; done) | (simp [*]; done)) : X := h
theorem zg4 {X : Prop} (h : X := by repeat (first | (with_reducible first | exact HB.out | apply below_alloc | apply pw_below_drewN | apply below_drew1) | exact HB.out)) : X := h
theorem zg5 {X : Prop} (h : X := by first | rfl | (simp [errW_none, errW_some] <;> rfl) | (simp [*, errW_none, errW_some] <;> rfl)) : X := h
theorem zg6 {X : Prop} (h : X := by first | (with_reducible assumption) | assumption) : X := h
theorem zg7 {X : Prop} (h : X := by repeat (first | (with_reducible first | exact HB.out | apply below_alloc | apply pw_below_drewN | apply below_drew1 | refine below_set ?_ GE184.out) | exact HB.out)) : X := h
theorem zg8 {X : Prop} (h : X := by have := HJ2.out; have := HK2.out; have := HK3.out; have := HK4.out; omega) : X := h
theorem zg9 {X : Prop} (h : X := by (with_reducible repeat (first | refine blk_drewN ?_ _ | refine blk_drew ?_ | refine blk_alloc ?_ _)); exact BK184.out) : X := h
theorem zg10 {X : Prop} (h : X := by repeat (first | exact (Kd.R_reads' HO_5.out).2.2 | (with_reducible refine Kd.C_alloc ?_ _) | (with_reducible refine Kd.C_drewN ?_ _) | (with_reducible refine Kd.C_drew ?_))) : X := h
theorem zg11 {X : Prop} (h : X := by have := hj.out.1; have := h0'.out; omega) : X := h
theorem zg12 {X : Prop} (h : X := by have := hj.out.2.2.1; have := hlt'.out; omega) : X := h
theorem zg13 {X : Prop} (h : X := by have := hk.out.1; have := HN.out; have := hlt'.out; unfold wrap64; omega) : X := h
theorem zg14 {X : Prop} (h : X := by (with_reducible repeat (first | apply Kd.R_alloc | apply Kd.R_drewN | apply Kd.R_drew)); exact HQ.out) : X := h
attribute [local go_sem] max2_int min2_int max_two min_two max_three min_three max_four min_four   -- for this text's walks alone
set_option linter.unusedVariables false
set_option linter.unusedSimpArgs false

/-! ### spec_Failing: function 28 -/
mutual
def spec_Failing.j0 : Nat → List (S55) → List ByteArray → List ByteArray → Bool → Option (List ByteArray)
 | 0, _, _, _, _ => none
 | k + 1, x0, x1, x5, x19 => if x19 = true then (some x5) else (spec_Failing.l0 k x0 x1 x5 0)
def spec_Failing.l0 : Nat → List (S55) → List ByteArray → List ByteArray → Int → Option (List ByteArray)
 | 0, _, _, _, _ => none
 | k + 1, x0, x1, x5, x6 => if x6 ≤ (x0.length : Int) then (spec_Failing.l1 k x0 x1 x5 x6 0) else (some x5)
def spec_Failing.l1 : Nat → List (S55) → List ByteArray → List ByteArray → Int → Int → Option (List ByteArray)
 | 0, _, _, _, _, _ => none
 | k + 1, x0, x1, x5, x6, x7 => if x7 < (x0.length : Int) then (if 0 ≤ x7 then ((spec_l3Has.f k x1 ((rd_T55 x0 x7).f0)).bind fun t185 => (spec_Failing.l2 k x0 x1 x5 x6 x7 t185 0 ((rd_T55 x0 x7).f0) ((rd_T55 x0 x7).f1) ((rd_T55 x0 x7).f2) ((rd_T55 x0 x7).f3) ((rd_T55 x0 x7).f4))) else (none)) else (spec_Failing.l0 k x0 x1 x5 (wrap64 (x6 + 1)))
def spec_Failing.l2 : Nat → List (S55) → List ByteArray → List ByteArray → Int → Int → Bool → Int → ByteArray → List ByteArray → List ByteArray → ByteArray → Bool → Option (List ByteArray)
 | 0, _, _, _, _, _, _, _, _, _, _, _, _ => none
 | k + 1, x0, x1, x5, x6, x7, x9, x10, x185000, x185001, x185002, x185003, x185004 => if x10 < (x185002.length : Int) then (if x9 = true then (spec_Failing.l2 k x0 x1 x5 x6 x7 true (wrap64 (x10 + 1)) x185000 x185001 x185002 x185003 x185004) else (if 0 ≤ x10 then ((spec_l3Has.f k x5 (rdOf ByteArray.empty x185002 x10)).bind fun t187 => (if t187 = true then (spec_Failing.l2 k x0 x1 x5 x6 x7 true (wrap64 (x10 + 1)) x185000 x185001 x185002 x185003 x185004) else ((spec_l18Find.f k x0 (rdOf ByteArray.empty x185002 x10)).bind fun t189 => (spec_Failing.l2 k x0 x1 x5 x6 x7 (decide (t189 < 0)) (wrap64 (x10 + 1)) x185000 x185001 x185002 x185003 x185004)))) else (none))) else (if x9 = true then ((spec_l3Add.f k x5 x185000).bind fun t190 => (spec_Failing.l1 k x0 x1 t190 x6 (wrap64 (x7 + 1)))) else (spec_Failing.l1 k x0 x1 x5 x6 (wrap64 (x7 + 1))))
end
def spec_Failing.f (k : Nat) (l0 : List (S55)) (l1 : List ByteArray) : Option (List ByteArray) := (some (([] : List ByteArray) : List ByteArray)).bind fun y179 => ((spec_UnitsOk.f k l0).bind fun t182 => (if t182 = true then (spec_Failing.j0 k l0 l1 y179 (decide ((l1.length : Int) > 2000))) else (spec_Failing.j0 k l0 l1 y179 true)))
theorem spec_Failing.mono_l : ∀ k, (∀ y0 y1 y2 y3, LeO (spec_Failing.j0 k y0 y1 y2 y3) (spec_Failing.j0 (k + 1) y0 y1 y2 y3)) ∧ (∀ y0 y1 y2 y3, LeO (spec_Failing.l0 k y0 y1 y2 y3) (spec_Failing.l0 (k + 1) y0 y1 y2 y3)) ∧ (∀ y0 y1 y2 y3 y4, LeO (spec_Failing.l1 k y0 y1 y2 y3 y4) (spec_Failing.l1 (k + 1) y0 y1 y2 y3 y4)) ∧ (∀ y0 y1 y2 y3 y4 y5 y6 y7 y8 y9 y10 y11, LeO (spec_Failing.l2 k y0 y1 y2 y3 y4 y5 y6 y7 y8 y9 y10 y11) (spec_Failing.l2 (k + 1) y0 y1 y2 y3 y4 y5 y6 y7 y8 y9 y10 y11))
 | 0 => ⟨fun _ _ _ _ r h => by simp [spec_Failing.j0] at h, fun _ _ _ _ r h => by simp [spec_Failing.l0] at h, fun _ _ _ _ _ r h => by simp [spec_Failing.l1] at h, fun _ _ _ _ _ _ _ _ _ _ _ _ r h => by simp [spec_Failing.l2] at h⟩
 | k + 1 => by
  obtain ⟨ih0, ih1, ih2, ih3⟩ := spec_Failing.mono_l k
  refine ⟨?_, ?_, ?_, ?_⟩ <;> intros <;> (first | unfold spec_Failing.j0 | unfold spec_Failing.l0 | unfold spec_Failing.l1 | unfold spec_Failing.l2) <;>
   repeat' first
   | (with_reducible exact ih0 _ _ _ _)
   | (with_reducible exact ih1 _ _ _ _)
   | (with_reducible exact ih2 _ _ _ _ _)
   | (with_reducible exact ih3 _ _ _ _ _ _ _ _ _ _ _ _)
   | (with_reducible exact spec_UnitsOk.mono _ _)
   | (with_reducible exact spec_l18Find.mono _ _ _)
   | (with_reducible exact spec_l3Add.mono _ _ _)
   | (with_reducible exact spec_l3Has.mono _ _ _)
   | (with_reducible exact LeO.refl _)
   | (with_reducible exact LeO.none _)
   | (with_reducible refine LeO.ite ?_ ?_)
   | (with_reducible refine LeO.bind ?_ (fun _ => ?_))
   | exact ih0 _ _ _ _
   | exact ih1 _ _ _ _
   | exact ih2 _ _ _ _ _
   | exact ih3 _ _ _ _ _ _ _ _ _ _ _ _
   | exact spec_UnitsOk.mono _ _
   | exact spec_l18Find.mono _ _ _
   | exact spec_l3Add.mono _ _ _
   | exact spec_l3Has.mono _ _ _
   | exact LeO.none _
   | refine LeO.ite ?_ ?_
   | refine LeO.bind ?_ (fun _ => ?_)
theorem spec_Failing.mono : ∀ a0 a1 k, LeO (spec_Failing.f k a0 a1) (spec_Failing.f (k + 1) a0 a1) := by
 intro a0 a1 k
 obtain ⟨ih0, ih1, ih2, ih3⟩ := spec_Failing.mono_l k
 unfold spec_Failing.f
 repeat' first
   | (with_reducible exact ih0 _ _ _ _)
   | (with_reducible exact ih1 _ _ _ _)
   | (with_reducible exact ih2 _ _ _ _ _)
   | (with_reducible exact ih3 _ _ _ _ _ _ _ _ _ _ _ _)
   | (with_reducible exact spec_UnitsOk.mono _ _)
   | (with_reducible exact spec_l18Find.mono _ _ _)
   | (with_reducible exact spec_l3Add.mono _ _ _)
   | (with_reducible exact spec_l3Has.mono _ _ _)
   | (with_reducible exact LeO.refl _)
   | (with_reducible exact LeO.none _)
   | (with_reducible refine LeO.ite ?_ ?_)
   | (with_reducible refine LeO.bind ?_ (fun _ => ?_))
   | exact ih0 _ _ _ _
   | exact ih1 _ _ _ _
   | exact ih2 _ _ _ _ _
   | exact ih3 _ _ _ _ _ _ _ _ _ _ _ _
   | exact spec_UnitsOk.mono _ _
   | exact spec_l18Find.mono _ _ _
   | exact spec_l3Add.mono _ _ _
   | exact spec_l3Has.mono _ _ _
   | exact LeO.none _
   | refine LeO.ite ?_ ?_
   | refine LeO.bind ?_ (fun _ => ?_)
set_option maxHeartbeats 8000000 in
set_option maxRecDepth 100000 in
theorem spec_Failing.calls (k : Nat) (A0 : Option Addr) (c0 : Nat) (l0 : List (S55)) (A1 : Option Addr) (c1 : Nat) (l1 : List ByteArray) (r : List ByteArray) (w : World) (hr0 : Kd.C k55 w A0 l0.length l0) (hc0 : l0.length ≤ c0) (hr1 : Kd.C Kd.string w A1 l1.length l1) (hc1 : l1.length ≤ c1) (h : spec_Failing.f k l0 l1 = some r) :
  Calls Try.prog 28 #[.slice A0 l0.length c0, .slice A1 l1.length c1] w fun e w' => ∃ v0_ : Value, e = .returned (v0_) ∧ Kd.R Kd.string 9 w' w.heap.size (fun _ => True) v0_ r ∧ Below w.heap.size w w' := by
 have hu55 := Try.underlying55
 have HR0 := Aside0.mk hr0
 have HC0 := Aside0.mk hc0
 clear hr0 hc0
 have HR1 := Aside0.mk hr1
 have HC1 := Aside0.mk hc1
 clear hr1 hc1
 have HB := Aside0.mk (Below.refl w.heap.size w)
 have H : ((some (([] : List ByteArray) : List ByteArray)).bind fun y179 => ((spec_UnitsOk.f k l0).bind fun t182 => (if t182 = true then (spec_Failing.j0 k l0 l1 y179 (decide ((l1.length : Int) > 2000))) else (spec_Failing.j0 k l0 l1 y179 true)))) = some r := h
 clear h
 obtain ⟨y179, hy179⟩ : ∃ y_ : List ByteArray, y_ = (([] : List ByteArray)) := ⟨_, rfl⟩
 replace H : ((spec_UnitsOk.f k l0).bind fun t182 => (if t182 = true then (spec_Failing.j0 k l0 l1 y179 (decide ((l1.length : Int) > 2000))) else (spec_Failing.j0 k l0 l1 y179 true))) = some r := by first | (rw [hy179]; with_reducible exact H) | (have H2_ := (Option.bind_some _ _).symm.trans H; rw [hy179]; with_reducible exact H2_) | (have H2_ := (Option.bind_some _ _).symm.trans H; with_reducible exact H2_) | with_reducible exact H | (rw [hy179]; exact H) | exact H
 have Ny179 := Aside0.mk hy179
 clear hy179
 have HC3 := Aside0.mk H
 clear H
 go_enter Try.func28, Try.ntmps28
 go_upto_region 2 with (first | ((with_reducible refine gate_dst (N := 11) rfl ?_); (try (refine gate_guard (by rfl) ?_; dsimp only)); refine Kd.R_lit Kd.string _ 9 ?hg (N := 11) ?hd (xs := ([] : List ByteArray)) (inner := []) (ok := fun _ => True) (okp := fun _ => True) ?hr ?hp (fun _ hk => hk) trivial (Below.refl _ _) (Nat.le_refl _) (by simp) ?_; (case hd => rfl); (case hg => rfl); (case hr => first | (go_simp; done) | (go_simp; rfl)); (case hp => exact (Reps.none _ _)); intro v180 w4 ho5 hb hg_ hnew_; clear hg_ hnew_; (first | rw [← Ny179.out] at ho5 | (simp only [Int.reduceToNat] at ho5; rw [← Ny179.out] at ho5)); have n0_ := Aside0.mk (Kd.R_lower ho5 (below_size qB)); have n1_ := Aside0.mk (below_step qB hb); clear HB; have HO181 := n0_; have HB := n1_; clear n0_ n1_; clear hb ho5))
 (try simp only [Act.put, List.setIfInBounds_toArray, List.set_cons_zero, List.set_cons_succ])
 go_cut [19] (fun v19 wc => ∃ (kq : Nat) (x19_2 : Bool), v19 = .bool x19_2 ∧ Aside0 (spec_Failing.j0 kq l0 l1 y179 x19_2 = some r) ∧ Aside0 (kq ≤ k) ∧ Aside0 (Kd.R Kd.string 9 wc w.heap.size (fun _ => True) v180 y179) ∧ Aside0 (Below w.heap.size w wc))
 case first =>
  have H := HC3.out
  clear HC3
  replace H := Option.bind_eq_some_iff.mp H
  obtain ⟨t182, A60, H⟩ := H
  replace H : (if t182 = true then (spec_Failing.j0 k l0 l1 y179 (decide ((l1.length : Int) > 2000))) else (spec_Failing.j0 k l0 l1 y179 true)) = some r := H
  have A6 := Aside0.mk A60
  clear A60
  by_cases c7 : t182 = true
  ·subst c7
   have H1 : (spec_Failing.j0 k l0 l1 y179 (decide ((l1.length : Int) > 2000))) = some r := by rw [if_pos rfl] at H; exact H
   clear H
   have H := H1
   clear H1
   have H' := Aside0.mk H
   clear H
   go_wp2_with (first | ((with_reducible refine gate_callee (f := 13) rfl ?_); refine goesL_ (some 13) rfl rfl Try.func13 (by kernel_rfl) rfl #[.slice A0 l0.length c0] rfl zg0 ?_; (with_reducible refine (spec_UnitsOk.calls k _ _ l0 true _ ?side1 ?side2 A6.out).mono ?_); (case side1 => exact zg1); (case side2 => exact HC0.out); rintro e w8 ⟨rfl, hb⟩; refine ⟨_, rfl, ?_⟩; replace HO181 := Aside0.mk (Kd.R_below (zg2 HO181.out) hb); replace HB := Aside0.mk (below_step qB hb); (try clear hb); (try clear hb2); (try clear hk); (try clear hi)))
   go_meet
   case rel => exact ⟨_, (decide ((l1.length : Int) > 2000)), zg3, H', ⟨by first | omega | exact Nat.le_refl _⟩, ⟨zg2 HO181.out⟩, ⟨zg4⟩⟩
  ·replace c7 := Bool.eq_false_iff.mpr c7
   subst c7
   have H1 : (spec_Failing.j0 k l0 l1 y179 true) = some r := by rw [if_neg (show ¬ (false = true) by decide)] at H; exact H
   clear H
   have H := H1
   clear H1
   have H' := Aside0.mk H
   clear H
   go_wp2_with (first | ((with_reducible refine gate_callee (f := 13) rfl ?_); refine goesL_ (some 13) rfl rfl Try.func13 (by kernel_rfl) rfl #[.slice A0 l0.length c0] rfl zg0 ?_; (with_reducible refine (spec_UnitsOk.calls k _ _ l0 false _ ?side1 ?side2 A6.out).mono ?_); (case side1 => exact zg1); (case side2 => exact HC0.out); rintro e w9 ⟨rfl, hb⟩; refine ⟨_, rfl, ?_⟩; replace HO181 := Aside0.mk (Kd.R_below (zg2 HO181.out) hb); replace HB := Aside0.mk (below_step qB hb); (try clear hb); (try clear hb2); (try clear hk); (try clear hi)))
   go_meet
   case rel => exact ⟨_, (true), zg3, H', ⟨by first | omega | exact Nat.le_refl _⟩, ⟨zg2 HO181.out⟩, ⟨zg4⟩⟩
 case rest =>
  clear HC3
  try clear c1
  try clear c2
  try clear p2
  try clear c7
  obtain ⟨kq, x19_2, rfl, HA, HJ2, HO_5, HB⟩ := hcut
  cases kq with
  | zero => exact absurd HA.out (by simp [spec_Failing.j0])
  | succ kj2 =>
   have H := HA.out
   clear HA
   simp only [spec_Failing.j0] at H
   by_cases c10 : x19_2 = true
   ·subst c10
    have H1 : (some y179) = some r := by rw [if_pos rfl] at H; exact H
    clear H
    have H := H1
    clear H1
    obtain rfl := Option.some.inj H
    go_wp2
    go_ret
    exact ⟨_, zg5, zg2 HO_5.out, zg4⟩
   ·replace c10 := Bool.eq_false_iff.mpr c10
    subst c10
    have H1 : (spec_Failing.l0 kj2 l0 l1 y179 0) = some r := by rw [if_neg (show ¬ (false = true) by decide)] at H; exact H
    clear H
    have H := H1
    clear H1
    have H' := Aside0.mk H
    clear H
    go_wp2
    go_loopg [5, 6] kj2 (fun kq v5 v6 w' => ∃ (x5_2 : List ByteArray) (x6_2 : Int), v6 = .int .i64 x6_2 ∧ Aside0 (spec_Failing.l0 kq l0 l1 x5_2 x6_2 = some r) ∧ Aside0 (kq ≤ kj2) ∧ Aside0 (Kd.R Kd.string 9 w' w.heap.size (fun _ => True) v5 x5_2) ∧ Aside0 (Below w.heap.size w w'))
    case atStart => exact ⟨(y179), (0), zg3, H', ⟨Nat.le_refl _⟩, ⟨zg2 HO_5.out⟩, ⟨zg4⟩⟩
    case round =>
     clear H'
     try clear c1
     try clear c2
     try clear p2
     try clear c7
     try clear c10
     try clear p2
     obtain ⟨x5_2, x6_2, rfl, HA, HK2, HO_5, HB⟩ := hrel
     cases gk with
     | zero => exact absurd HA.out (by simp [spec_Failing.l0])
     | succ k2 =>
      have H := HA.out
      clear HA
      simp only [spec_Failing.l0] at H
      by_cases c11 : x6_2 ≤ (l0.length : Int)
      ·rw [if_pos c11] at H
       have c11b0 : decide (x6_2 ≤ (l0.length : Int)) = true := decide_eq_true c11
       clear c11
       have H' := Aside0.mk H
       clear H
       go_wp2
       go_loopg [5, 7] k2 (fun kq v5 v7 w' => ∃ (x5_3 : List ByteArray) (x7_3 : Int), v7 = .int .i64 x7_3 ∧ Aside0 (spec_Failing.l1 kq l0 l1 x5_3 x6_2 x7_3 = some r) ∧ Aside0 (kq ≤ k2) ∧ Aside0 (Kd.R Kd.string 9 w' w.heap.size (fun _ => True) v5 x5_3) ∧ Aside0 (Below w.heap.size w w'))
       case atStart => exact ⟨(x5_2), (0), zg3, H', ⟨Nat.le_refl _⟩, ⟨zg2 HO_5.out⟩, ⟨zg4⟩⟩
       case round =>
        clear H'
        try clear c1
        try clear c2
        try clear p2
        try clear c7
        try clear c10
        try clear c11
        try clear c11b0
        try clear p2
        obtain ⟨x5_3, x7_3, rfl, HA, HK3, HO_5, HB⟩ := hrel
        cases gk with
        | zero => exact absurd HA.out (by simp [spec_Failing.l1])
        | succ k3 =>
         have H := HA.out
         clear HA
         simp only [spec_Failing.l1] at H
         by_cases c12 : x7_3 < (l0.length : Int)
         ·rw [if_pos c12] at H
          have c12b0 : decide (x7_3 < (l0.length : Int)) = true := decide_eq_true c12
          clear c12
          by_cases c13 : 0 ≤ x7_3
          ·rw [if_pos c13] at H
           have c13b0 : decide (0 ≤ x7_3) = true := decide_eq_true c13
           clear c13
           replace H := Option.bind_eq_some_iff.mp H
           obtain ⟨t185, A140, H⟩ := H
           replace H : (spec_Failing.l2 k3 l0 l1 x5_3 x6_2 x7_3 t185 0 ((rd_T55 l0 x7_3).f0) ((rd_T55 l0 x7_3).f1) ((rd_T55 l0 x7_3).f2) ((rd_T55 l0 x7_3).f3) ((rd_T55 l0 x7_3).f4)) = some r := H
           have A14 := Aside0.mk A140
           clear A140
           have H' := Aside0.mk H
           clear H
           have p183 : 0 ≤ (x7_3 : Int) := of_decide_eq_true zg6
           have q183 : x7_3 < (l0.length : Int) := of_decide_eq_true zg6
           obtain ⟨ad183, A183_1, c183_1, A183_2, c183_2, e183, hx183_0, hx183_1, hx183_2, hx183_3, hx183_4, hl183_1, hi183_1, hl183_2, hi183_2⟩ := at_T55 HR0.out x7_3 p183 q183
           cases e183
           try (replace hx183_0 := (HB.out.cell (World.block_lt_of_cell? w _ hx183_0)).trans hx183_0)
           try (replace hx183_1 := (HB.out.cell (World.block_lt_of_cell? w _ hx183_1)).trans hx183_1)
           try (replace hx183_2 := (HB.out.cell (World.block_lt_of_cell? w _ hx183_2)).trans hx183_2)
           try (replace hx183_3 := (HB.out.cell (World.block_lt_of_cell? w _ hx183_3)).trans hx183_3)
           try (replace hx183_4 := (HB.out.cell (World.block_lt_of_cell? w _ hx183_4)).trans hx183_4)
           have HR183_1 := Aside0.mk hi183_1
           have HC183_1 := Aside0.mk hl183_1
           clear hi183_1 hl183_1
           have HR183_2 := Aside0.mk hi183_2
           have HC183_2 := Aside0.mk hl183_2
           clear hi183_2 hl183_2
           replace p183 := eq_true p183
           replace q183 := eq_true q183
           go_wp2_with (first | ((with_reducible refine gate_dst (N := 8) rfl ?_); (try (refine gate_guard (by rfl) ?_; dsimp only)); refine box_event ?hg (N := 8) ?hd (cs := #[.string (⟨#[]⟩ : ByteArray), .slice none 0 0, .slice none 0 0, .string (⟨#[]⟩ : ByteArray), .bool false]) (t := 55) ?hr ?_; (case hd => rfl); (case hg => rfl); (case hr => first | (go_simp; done) | (go_simp; rfl)); intro gb184 hg w15 hbox hb; replace HO_5 := Aside0.mk (Kd.R_below (zg2 HO_5.out) hb); have BK184 := Aside0.mk (hbox); have GW184 := Aside0.mk ((by rw [hg]; exact (below_size qB) : w.heap.size ≤ gb184)); have GE184 := Aside0.mk ((by rw [hg]; exact (below_size qB) : w.heap.size ≤ gb184)); replace HB := Aside0.mk (below_step qB hb); clear hb hbox hg; have hcz16_0 : w15.cell? ⟨gb184, 0, none⟩ = some (.string (⟨#[]⟩ : ByteArray)) := (blk_cell BK184.out 0).trans rfl; have hcz16_1 : w15.cell? ⟨gb184, 1, none⟩ = some (.slice none 0 0) := (blk_cell BK184.out 1).trans rfl; have hcz16_2 : w15.cell? ⟨gb184, 2, none⟩ = some (.slice none 0 0) := (blk_cell BK184.out 2).trans rfl; have hcz16_3 : w15.cell? ⟨gb184, 3, none⟩ = some (.string (⟨#[]⟩ : ByteArray)) := (blk_cell BK184.out 3).trans rfl; have hcz16_4 : w15.cell? ⟨gb184, 4, none⟩ = some (.bool false) := (blk_cell BK184.out 4).trans rfl; have hfz16_0 := blk_frozen BK184.out 0; have hfz16_1 := blk_frozen BK184.out 1; have hfz16_2 := blk_frozen BK184.out 2; have hfz16_3 := blk_frozen BK184.out 3; have hfz16_4 := blk_frozen BK184.out 4) | ((with_reducible refine gate_callee (f := 60) rfl ?_); refine goesL_ (some 40) rfl rfl Try.func60 (by kernel_rfl) rfl #[.slice A1 l1.length c1, .string ((rd_T55 l0 x7_3).f0)] rfl zg0 ?_; (with_reducible refine (spec_l3Has.calls k3 _ _ l1 ((rd_T55 l0 x7_3).f0) t185 _ ?side1 ?side2 A14.out).mono ?_); (case side1 => exact Kd.C_below HR1.out (qG GE184.out)); (case side2 => exact HC1.out); rintro e w' ⟨rfl, ⟨nd, rfl⟩⟩; refine ⟨_, rfl, ?_⟩))
           go_loopg [9, 10] k3 (fun kq v9 v10 w' => ∃ (x9_4 : Bool) (x10_4 : Int), v9 = .bool x9_4 ∧ v10 = .int .i64 x10_4 ∧ Aside0 (spec_Failing.l2 kq l0 l1 x5_3 x6_2 x7_3 x9_4 x10_4 ((rd_T55 l0 x7_3).f0) ((rd_T55 l0 x7_3).f1) ((rd_T55 l0 x7_3).f2) ((rd_T55 l0 x7_3).f3) ((rd_T55 l0 x7_3).f4) = some r) ∧ Aside0 (kq ≤ k3) ∧ Aside0 (Kd.R Kd.string 9 w' w.heap.size (fun _ => True) u5 x5_3) ∧ Aside0 (w'.heap[gb184]? = some (.cells #[.string ((rd_T55 l0 x7_3).f0), (.slice A183_1 ((rd_T55 l0 x7_3).f1).length c183_1), (.slice A183_2 ((rd_T55 l0 x7_3).f2).length c183_2), .string ((rd_T55 l0 x7_3).f3), .bool ((rd_T55 l0 x7_3).f4)] 55 (0, 0))) ∧ Aside0 (Below w.heap.size w w'))
           case atStart => exact ⟨(t185), (0), zg3, zg3, H', ⟨Nat.le_refl _⟩, ⟨by (with_reducible repeat (first | apply Kd.R_alloc | apply Kd.R_drewN | apply Kd.R_drew)); exact Kd.R_mono (Kd.R_far (p := ⟨gb184, 4, none⟩) (Kd.R_far (p := ⟨gb184, 3, none⟩) (Kd.R_far (p := ⟨gb184, 2, none⟩) (Kd.R_far (p := ⟨gb184, 1, none⟩) (Kd.R_far (p := ⟨gb184, 0, none⟩) (Kd.R_types HO_5.out BK184.out (by decide)) (fun _ hk => hk.2) (.string ((rd_T55 l0 x7_3).f0))) (fun _ hk => hk.2) (.slice A183_1 ((rd_T55 l0 x7_3).f1).length c183_1)) (fun _ hk => hk.2) (.slice A183_2 ((rd_T55 l0 x7_3).f2).length c183_2)) (fun _ hk => hk.2) (.string ((rd_T55 l0 x7_3).f3))) (fun _ hk => hk.2) (.bool ((rd_T55 l0 x7_3).f4))) (fun _ hk => trivial)⟩, ⟨by (with_reducible repeat (first | refine blk_drewN ?_ _ | refine blk_drew ?_ | refine blk_alloc ?_ _)); refine blk_put (cs := #[.string ((rd_T55 l0 x7_3).f0), .slice A183_1 ((rd_T55 l0 x7_3).f1).length c183_1, .slice A183_2 ((rd_T55 l0 x7_3).f2).length c183_2, .string ((rd_T55 l0 x7_3).f3), .bool false]) ?_ 4 _ rfl; (with_reducible repeat (first | refine blk_drewN ?_ _ | refine blk_drew ?_ | refine blk_alloc ?_ _)); refine blk_put (cs := #[.string ((rd_T55 l0 x7_3).f0), .slice A183_1 ((rd_T55 l0 x7_3).f1).length c183_1, .slice A183_2 ((rd_T55 l0 x7_3).f2).length c183_2, .string (⟨#[]⟩ : ByteArray), .bool false]) ?_ 3 _ rfl; (with_reducible repeat (first | refine blk_drewN ?_ _ | refine blk_drew ?_ | refine blk_alloc ?_ _)); refine blk_put (cs := #[.string ((rd_T55 l0 x7_3).f0), .slice A183_1 ((rd_T55 l0 x7_3).f1).length c183_1, .slice none 0 0, .string (⟨#[]⟩ : ByteArray), .bool false]) ?_ 2 _ rfl; (with_reducible repeat (first | refine blk_drewN ?_ _ | refine blk_drew ?_ | refine blk_alloc ?_ _)); refine blk_put (cs := #[.string ((rd_T55 l0 x7_3).f0), .slice none 0 0, .slice none 0 0, .string (⟨#[]⟩ : ByteArray), .bool false]) ?_ 1 _ rfl; (with_reducible repeat (first | refine blk_drewN ?_ _ | refine blk_drew ?_ | refine blk_alloc ?_ _)); refine blk_put (cs := #[.string (⟨#[]⟩ : ByteArray), .slice none 0 0, .slice none 0 0, .string (⟨#[]⟩ : ByteArray), .bool false]) ?_ 0 _ rfl; (with_reducible repeat (first | refine blk_drewN ?_ _ | refine blk_drew ?_ | refine blk_alloc ?_ _)); exact BK184.out⟩, ⟨zg7⟩⟩
           case round =>
            clear H'
            try clear c1
            try clear p1
            try clear q1
            try clear hx1
            try clear c2
            try clear p2
            try clear c6
            try clear c7
            try clear c10
            try clear c11
            try clear c11b0
            try clear c12
            try clear c12b0
            try clear c13
            try clear c13b0
            try clear hcz16_0
            try clear hcz16_1
            try clear hcz16_2
            try clear hcz16_3
            try clear hcz16_4
            try clear hfz16_0
            try clear hfz16_1
            try clear hfz16_2
            try clear hfz16_3
            try clear hfz16_4
            try clear hx183_0
            try clear hx183_1
            try clear hx183_2
            try clear hx183_3
            try clear hx183_4
            try clear p183
            try clear p2
            try clear q183
            obtain ⟨x9_4, x10_4, rfl, rfl, HA, HK4, HO_5, BK184, HB⟩ := hrel
            cases gk with
            | zero => exact absurd HA.out (by simp [spec_Failing.l2])
            | succ k4 =>
             have H := HA.out
             clear HA
             simp only [spec_Failing.l2] at H
             by_cases c17 : x10_4 < (((rd_T55 l0 x7_3).f2).length : Int)
             ·rw [if_pos c17] at H
              have c17b0 : decide (x10_4 < (((rd_T55 l0 x7_3).f2).length : Int)) = true := decide_eq_true c17
              clear c17
              by_cases c18 : x9_4 = true
              ·subst c18
               have H1 : (spec_Failing.l2 k4 l0 l1 x5_3 x6_2 x7_3 true (wrap64 (x10_4 + 1)) ((rd_T55 l0 x7_3).f0) ((rd_T55 l0 x7_3).f1) ((rd_T55 l0 x7_3).f2) ((rd_T55 l0 x7_3).f3) ((rd_T55 l0 x7_3).f4)) = some r := by rw [if_pos rfl] at H; exact H
               clear H
               have H := H1
               clear H1
               have H' := Aside0.mk H
               clear H
               have hcz19_0 : wr.cell? ⟨gb184, 0, none⟩ = some (.string ((rd_T55 l0 x7_3).f0)) := (blk_cell BK184.out 0).trans rfl
               have hcz19_1 : wr.cell? ⟨gb184, 1, none⟩ = some (.slice A183_1 ((rd_T55 l0 x7_3).f1).length c183_1) := (blk_cell BK184.out 1).trans rfl
               have hcz19_2 : wr.cell? ⟨gb184, 2, none⟩ = some (.slice A183_2 ((rd_T55 l0 x7_3).f2).length c183_2) := (blk_cell BK184.out 2).trans rfl
               have hcz19_3 : wr.cell? ⟨gb184, 3, none⟩ = some (.string ((rd_T55 l0 x7_3).f3)) := (blk_cell BK184.out 3).trans rfl
               have hcz19_4 : wr.cell? ⟨gb184, 4, none⟩ = some (.bool ((rd_T55 l0 x7_3).f4)) := (blk_cell BK184.out 4).trans rfl
               have hfz19_0 := blk_frozen BK184.out 0
               have hfz19_1 := blk_frozen BK184.out 1
               have hfz19_2 := blk_frozen BK184.out 2
               have hfz19_3 := blk_frozen BK184.out 3
               have hfz19_4 := blk_frozen BK184.out 4
               go_wp2
               go_roundg k4
               case measure => have := HJ2.out; have := HK2.out; have := HK3.out; have := HK4.out; omega
               case rel => exact ⟨(true), (wrap64 (x10_4 + 1)), zg3, zg3, H', ⟨zg8⟩, ⟨zg2 HO_5.out⟩, ⟨zg9⟩, ⟨zg7⟩⟩
              ·replace c18 := Bool.eq_false_iff.mpr c18
               subst c18
               have H1 : (if 0 ≤ x10_4 then ((spec_l3Has.f k4 x5_3 (rdOf ByteArray.empty ((rd_T55 l0 x7_3).f2) x10_4)).bind fun t187 => (if t187 = true then (spec_Failing.l2 k4 l0 l1 x5_3 x6_2 x7_3 true (wrap64 (x10_4 + 1)) ((rd_T55 l0 x7_3).f0) ((rd_T55 l0 x7_3).f1) ((rd_T55 l0 x7_3).f2) ((rd_T55 l0 x7_3).f3) ((rd_T55 l0 x7_3).f4)) else ((spec_l18Find.f k4 l0 (rdOf ByteArray.empty ((rd_T55 l0 x7_3).f2) x10_4)).bind fun t189 => (spec_Failing.l2 k4 l0 l1 x5_3 x6_2 x7_3 (decide (t189 < 0)) (wrap64 (x10_4 + 1)) ((rd_T55 l0 x7_3).f0) ((rd_T55 l0 x7_3).f1) ((rd_T55 l0 x7_3).f2) ((rd_T55 l0 x7_3).f3) ((rd_T55 l0 x7_3).f4))))) else (none)) = some r := by rw [if_neg (show ¬ (false = true) by decide)] at H; exact H
               clear H
               have H := H1
               clear H1
               by_cases c20 : 0 ≤ x10_4
               ·rw [if_pos c20] at H
                have c20b0 : decide (0 ≤ x10_4) = true := decide_eq_true c20
                clear c20
                replace H := Option.bind_eq_some_iff.mp H
                obtain ⟨t187, A210, H⟩ := H
                replace H : (if t187 = true then (spec_Failing.l2 k4 l0 l1 x5_3 x6_2 x7_3 true (wrap64 (x10_4 + 1)) ((rd_T55 l0 x7_3).f0) ((rd_T55 l0 x7_3).f1) ((rd_T55 l0 x7_3).f2) ((rd_T55 l0 x7_3).f3) ((rd_T55 l0 x7_3).f4)) else ((spec_l18Find.f k4 l0 (rdOf ByteArray.empty ((rd_T55 l0 x7_3).f2) x10_4)).bind fun t189 => (spec_Failing.l2 k4 l0 l1 x5_3 x6_2 x7_3 (decide (t189 < 0)) (wrap64 (x10_4 + 1)) ((rd_T55 l0 x7_3).f0) ((rd_T55 l0 x7_3).f1) ((rd_T55 l0 x7_3).f2) ((rd_T55 l0 x7_3).f3) ((rd_T55 l0 x7_3).f4)))) = some r := H
                have A21 := Aside0.mk A210
                clear A210
                by_cases c22 : t187 = true
                ·subst c22
                 have H1 : (spec_Failing.l2 k4 l0 l1 x5_3 x6_2 x7_3 true (wrap64 (x10_4 + 1)) ((rd_T55 l0 x7_3).f0) ((rd_T55 l0 x7_3).f1) ((rd_T55 l0 x7_3).f2) ((rd_T55 l0 x7_3).f3) ((rd_T55 l0 x7_3).f4)) = some r := by rw [if_pos rfl] at H; exact H
                 clear H
                 have H := H1
                 clear H1
                 have H' := Aside0.mk H
                 clear H
                 have hcz23_0 : wr.cell? ⟨gb184, 0, none⟩ = some (.string ((rd_T55 l0 x7_3).f0)) := (blk_cell BK184.out 0).trans rfl
                 have hcz23_1 : wr.cell? ⟨gb184, 1, none⟩ = some (.slice A183_1 ((rd_T55 l0 x7_3).f1).length c183_1) := (blk_cell BK184.out 1).trans rfl
                 have hcz23_2 : wr.cell? ⟨gb184, 2, none⟩ = some (.slice A183_2 ((rd_T55 l0 x7_3).f2).length c183_2) := (blk_cell BK184.out 2).trans rfl
                 have hcz23_3 : wr.cell? ⟨gb184, 3, none⟩ = some (.string ((rd_T55 l0 x7_3).f3)) := (blk_cell BK184.out 3).trans rfl
                 have hcz23_4 : wr.cell? ⟨gb184, 4, none⟩ = some (.bool ((rd_T55 l0 x7_3).f4)) := (blk_cell BK184.out 4).trans rfl
                 have hfz23_0 := blk_frozen BK184.out 0
                 have hfz23_1 := blk_frozen BK184.out 1
                 have hfz23_2 := blk_frozen BK184.out 2
                 have hfz23_3 := blk_frozen BK184.out 3
                 have hfz23_4 := blk_frozen BK184.out 4
                 have p186 : 0 ≤ (x10_4 : Int) := of_decide_eq_true zg6
                 have q186 : x10_4 < (((rd_T55 l0 x7_3).f2).length : Int) := of_decide_eq_true zg6
                 obtain ⟨ad186, e186, hx186_0⟩ := Kd.at_string HR183_2.out x10_4 p186 q186
                 cases e186
                 try (replace hx186_0 := (HB.out.cell (World.block_lt_of_cell? w _ hx186_0)).trans hx186_0)
                 replace p186 := eq_true p186
                 replace q186 := eq_true q186
                 obtain ⟨Ao24, co24, eo24⟩ := Kd.R_slice HO_5.out
                 subst eo24
                 go_wp2_with (first | (go_at_call 60; (with_reducible refine (spec_l3Has.calls k4 _ _ x5_3 (rdOf ByteArray.empty ((rd_T55 l0 x7_3).f2) x10_4) true _ ?side1 ?side2 A21.out).mono ?_); (case side1 => exact zg10); (case side2 => exact (Kd.R_reads' HO_5.out).2.1); rintro e w' ⟨rfl, ⟨nd, rfl⟩⟩))
                 go_roundg k4
                 case measure => have := HJ2.out; have := HK2.out; have := HK3.out; have := HK4.out; omega
                 case rel => exact ⟨(true), (wrap64 (x10_4 + 1)), zg3, zg3, H', ⟨zg8⟩, ⟨zg2 HO_5.out⟩, ⟨zg9⟩, ⟨zg7⟩⟩
                ·replace c22 := Bool.eq_false_iff.mpr c22
                 subst c22
                 have H1 : ((spec_l18Find.f k4 l0 (rdOf ByteArray.empty ((rd_T55 l0 x7_3).f2) x10_4)).bind fun t189 => (spec_Failing.l2 k4 l0 l1 x5_3 x6_2 x7_3 (decide (t189 < 0)) (wrap64 (x10_4 + 1)) ((rd_T55 l0 x7_3).f0) ((rd_T55 l0 x7_3).f1) ((rd_T55 l0 x7_3).f2) ((rd_T55 l0 x7_3).f3) ((rd_T55 l0 x7_3).f4))) = some r := by rw [if_neg (show ¬ (false = true) by decide)] at H; exact H
                 clear H
                 have H := H1
                 clear H1
                 replace H := Option.bind_eq_some_iff.mp H
                 obtain ⟨t189, A250, H⟩ := H
                 replace H : (spec_Failing.l2 k4 l0 l1 x5_3 x6_2 x7_3 (decide (t189 < 0)) (wrap64 (x10_4 + 1)) ((rd_T55 l0 x7_3).f0) ((rd_T55 l0 x7_3).f1) ((rd_T55 l0 x7_3).f2) ((rd_T55 l0 x7_3).f3) ((rd_T55 l0 x7_3).f4)) = some r := H
                 have A25 := Aside0.mk A250
                 clear A250
                 have H' := Aside0.mk H
                 clear H
                 have hcz26_0 : wr.cell? ⟨gb184, 0, none⟩ = some (.string ((rd_T55 l0 x7_3).f0)) := (blk_cell BK184.out 0).trans rfl
                 have hcz26_1 : wr.cell? ⟨gb184, 1, none⟩ = some (.slice A183_1 ((rd_T55 l0 x7_3).f1).length c183_1) := (blk_cell BK184.out 1).trans rfl
                 have hcz26_2 : wr.cell? ⟨gb184, 2, none⟩ = some (.slice A183_2 ((rd_T55 l0 x7_3).f2).length c183_2) := (blk_cell BK184.out 2).trans rfl
                 have hcz26_3 : wr.cell? ⟨gb184, 3, none⟩ = some (.string ((rd_T55 l0 x7_3).f3)) := (blk_cell BK184.out 3).trans rfl
                 have hcz26_4 : wr.cell? ⟨gb184, 4, none⟩ = some (.bool ((rd_T55 l0 x7_3).f4)) := (blk_cell BK184.out 4).trans rfl
                 have hfz26_0 := blk_frozen BK184.out 0
                 have hfz26_1 := blk_frozen BK184.out 1
                 have hfz26_2 := blk_frozen BK184.out 2
                 have hfz26_3 := blk_frozen BK184.out 3
                 have hfz26_4 := blk_frozen BK184.out 4
                 have p186 : 0 ≤ (x10_4 : Int) := of_decide_eq_true zg6
                 have q186 : x10_4 < (((rd_T55 l0 x7_3).f2).length : Int) := of_decide_eq_true zg6
                 obtain ⟨ad186, e186, hx186_0⟩ := Kd.at_string HR183_2.out x10_4 p186 q186
                 cases e186
                 try (replace hx186_0 := (HB.out.cell (World.block_lt_of_cell? w _ hx186_0)).trans hx186_0)
                 replace p186 := eq_true p186
                 replace q186 := eq_true q186
                 obtain ⟨Ao27, co27, eo27⟩ := Kd.R_slice HO_5.out
                 subst eo27
                 go_wp2_with (first | (go_at_call 60; (with_reducible refine (spec_l3Has.calls k4 _ _ x5_3 (rdOf ByteArray.empty ((rd_T55 l0 x7_3).f2) x10_4) false _ ?side1 ?side2 A21.out).mono ?_); (case side1 => exact zg10); (case side2 => exact (Kd.R_reads' HO_5.out).2.1); rintro e w' ⟨rfl, ⟨nd, rfl⟩⟩; have p188 : 0 ≤ (x10_4 : Int) := of_decide_eq_true zg6; have q188 : x10_4 < (((rd_T55 l0 x7_3).f2).length : Int) := of_decide_eq_true zg6; obtain ⟨ad188, e188, hx188_0⟩ := Kd.at_string HR183_2.out x10_4 p188 q188; obtain rfl : ad186 = ad188 := (by injection e188); replace hx188_0 := (HB.out.cell (World.block_lt_of_cell? w _ hx188_0)).trans hx188_0; replace p188 := eq_true p188; replace q188 := eq_true q188) | (go_at_call 61; (with_reducible refine (spec_l18Find.calls k4 _ _ l0 (rdOf ByteArray.empty ((rd_T55 l0 x7_3).f2) x10_4) t189 _ ?side1 ?side2 A25.out).mono ?_); (case side1 => repeat (first | exact (Kd.C_below HR0.out (qG GE184.out)) | (with_reducible refine Kd.C_alloc ?_ _) | (with_reducible refine Kd.C_drewN ?_ _) | (with_reducible refine Kd.C_drew ?_))); (case side2 => exact HC0.out); rintro e w' ⟨rfl, ⟨nd, rfl⟩⟩))
                 go_roundg k4
                 case measure => have := HJ2.out; have := HK2.out; have := HK3.out; have := HK4.out; omega
                 case rel => exact ⟨(decide (t189 < 0)), (wrap64 (x10_4 + 1)), zg3, zg3, H', ⟨zg8⟩, ⟨zg2 HO_5.out⟩, ⟨zg9⟩, ⟨zg7⟩⟩
               ·rw [if_neg c20] at H
                exact absurd H (by simp)
             ·rw [if_neg c17] at H
              have c17b0 : decide (x10_4 < (((rd_T55 l0 x7_3).f2).length : Int)) = false := decide_eq_false c17
              clear c17
              by_cases c28 : x9_4 = true
              ·subst c28
               have H1 : ((spec_l3Add.f k4 x5_3 ((rd_T55 l0 x7_3).f0)).bind fun t190 => (spec_Failing.l1 k4 l0 l1 t190 x6_2 (wrap64 (x7_3 + 1)))) = some r := by rw [if_pos rfl] at H; exact H
               clear H
               have H := H1
               clear H1
               replace H := Option.bind_eq_some_iff.mp H
               obtain ⟨t190, A290, H⟩ := H
               replace H : (spec_Failing.l1 k4 l0 l1 t190 x6_2 (wrap64 (x7_3 + 1))) = some r := H
               have A29 := Aside0.mk A290
               clear A290
               have H' := Aside0.mk H
               clear H
               have hcz30_0 : wr.cell? ⟨gb184, 0, none⟩ = some (.string ((rd_T55 l0 x7_3).f0)) := (blk_cell BK184.out 0).trans rfl
               have hcz30_1 : wr.cell? ⟨gb184, 1, none⟩ = some (.slice A183_1 ((rd_T55 l0 x7_3).f1).length c183_1) := (blk_cell BK184.out 1).trans rfl
               have hcz30_2 : wr.cell? ⟨gb184, 2, none⟩ = some (.slice A183_2 ((rd_T55 l0 x7_3).f2).length c183_2) := (blk_cell BK184.out 2).trans rfl
               have hcz30_3 : wr.cell? ⟨gb184, 3, none⟩ = some (.string ((rd_T55 l0 x7_3).f3)) := (blk_cell BK184.out 3).trans rfl
               have hcz30_4 : wr.cell? ⟨gb184, 4, none⟩ = some (.bool ((rd_T55 l0 x7_3).f4)) := (blk_cell BK184.out 4).trans rfl
               have hfz30_0 := blk_frozen BK184.out 0
               have hfz30_1 := blk_frozen BK184.out 1
               have hfz30_2 := blk_frozen BK184.out 2
               have hfz30_3 := blk_frozen BK184.out 3
               have hfz30_4 := blk_frozen BK184.out 4
               obtain ⟨Ao31, co31, eo31⟩ := Kd.R_slice HO_5.out
               subst eo31
               go_wp2_with (first | ((with_reducible refine gate_callee (f := 55) rfl ?_); refine goesL_ (some 72) rfl rfl Try.func55 (by kernel_rfl) rfl #[.slice Ao31 x5_3.length co31, .string ((rd_T55 l0 x7_3).f0)] rfl zg0 ?_; (with_reducible refine (spec_l3Add.calls k4 (fun k_ => some k_ = (.slice Ao31 x5_3.length co31 : Value).ownBlock) (.slice Ao31 x5_3.length co31) x5_3 ((rd_T55 l0 x7_3).f0) t190 w _ ?side1 ?side2 A29.out).mono ?_); (case side1 => exact zg7); (case side2 => exact Kd.R_tight rfl HO_5.out); rintro e w32 ⟨v191, rfl, ho0, hb, hkp⟩; refine ⟨_, rfl, ?_⟩; replace BK184 := Aside0.mk (blk_kept (qK BK184.out) hkp (fun hs_ => (fun e_ => (Kd.R_ne HO_5.out BK184.out (by decide)) e_) hs_)); have HO192 := Aside0.mk (Kd.R_mono (ok' := fun k_ => True) ho0 (fun k_ hk_ => trivial)); replace HB := Aside0.mk (hb); clear HO_5; (try clear hb); (try clear hkp); (try clear ho0)))
               go_roundg k4
               case measure => have := HJ2.out; have := HK2.out; have := HK3.out; have := HK4.out; omega
               case rel => exact ⟨(t190), (wrap64 (x7_3 + 1)), zg3, H', ⟨zg8⟩, ⟨zg2 HO192.out⟩, ⟨zg7⟩⟩
              ·replace c28 := Bool.eq_false_iff.mpr c28
               subst c28
               have H1 : (spec_Failing.l1 k4 l0 l1 x5_3 x6_2 (wrap64 (x7_3 + 1))) = some r := by rw [if_neg (show ¬ (false = true) by decide)] at H; exact H
               clear H
               have H := H1
               clear H1
               have H' := Aside0.mk H
               clear H
               have hcz33_0 : wr.cell? ⟨gb184, 0, none⟩ = some (.string ((rd_T55 l0 x7_3).f0)) := (blk_cell BK184.out 0).trans rfl
               have hcz33_1 : wr.cell? ⟨gb184, 1, none⟩ = some (.slice A183_1 ((rd_T55 l0 x7_3).f1).length c183_1) := (blk_cell BK184.out 1).trans rfl
               have hcz33_2 : wr.cell? ⟨gb184, 2, none⟩ = some (.slice A183_2 ((rd_T55 l0 x7_3).f2).length c183_2) := (blk_cell BK184.out 2).trans rfl
               have hcz33_3 : wr.cell? ⟨gb184, 3, none⟩ = some (.string ((rd_T55 l0 x7_3).f3)) := (blk_cell BK184.out 3).trans rfl
               have hcz33_4 : wr.cell? ⟨gb184, 4, none⟩ = some (.bool ((rd_T55 l0 x7_3).f4)) := (blk_cell BK184.out 4).trans rfl
               have hfz33_0 := blk_frozen BK184.out 0
               have hfz33_1 := blk_frozen BK184.out 1
               have hfz33_2 := blk_frozen BK184.out 2
               have hfz33_3 := blk_frozen BK184.out 3
               have hfz33_4 := blk_frozen BK184.out 4
               go_wp2
               go_roundg k4
               case measure => have := HJ2.out; have := HK2.out; have := HK3.out; have := HK4.out; omega
               case rel => exact ⟨(x5_3), (wrap64 (x7_3 + 1)), zg3, H', ⟨zg8⟩, ⟨zg2 HO_5.out⟩, ⟨zg7⟩⟩
          ·rw [if_neg c13] at H
           exact absurd H (by simp)
         ·rw [if_neg c12] at H
          have c12b0 : decide (x7_3 < (l0.length : Int)) = false := decide_eq_false c12
          clear c12
          have H' := Aside0.mk H
          clear H
          go_wp2
          go_roundg k3
          case measure => have := HJ2.out; have := HK2.out; have := HK3.out; omega
          case rel => exact ⟨(x5_3), (wrap64 (x6_2 + 1)), zg3, H', ⟨by have := HJ2.out; have := HK2.out; have := HK3.out; omega⟩, ⟨zg2 HO_5.out⟩, ⟨zg4⟩⟩
      ·rw [if_neg c11] at H
       have c11b0 : decide (x6_2 ≤ (l0.length : Int)) = false := decide_eq_false c11
       clear c11
       obtain rfl := Option.some.inj H
       go_wp2
       go_ret
       exact ⟨_, zg5, zg2 HO_5.out, zg4⟩

/-! ### impl_sortedSet: function 81 -/
set_option maxHeartbeats 4000000 in
set_option maxRecDepth 1000000 in
theorem impl_sortedSet_calls (A0 : Option Addr) (c0 : Nat) (l0 : List ByteArray) (r : List ByteArray) (w : World) (hr0 : Kd.C Kd.string w A0 l0.length l0) (hc0 : l0.length ≤ c0) (hlen : l0.length ≤ 1000000) (hsz : ∀ s ∈ l0, s.size ≤ maxLen) (hasc : asc r) (hmem : ∀ s, s ∈ r ↔ s ∈ l0) :
    Calls Try.prog 81 #[.slice A0 l0.length c0] w fun e w' => ∃ v0_ : Value, e = .returned (v0_) ∧ Kd.R Kd.string 9 w' w.heap.size (fun _ => True) v0_ r ∧ Below w.heap.size w w' := by
  have HR0 := Aside0.mk hr0
  have HC0 := Aside0.mk hc0
  have HL := Aside0.mk hlen
  have HZ := Aside0.mk hsz
  have HA := Aside0.mk hasc
  have HM := Aside0.mk hmem
  clear hr0 hc0 hlen hsz hasc hmem
  have hmm := @run_makeMap Try.prog
  go_enter Try.func81, Try.ntmps81
  go_wp2
  go_loopw [13] (fun i wr => ∃ (x : Int) (k : Nat) (D : DataW Unit), i = .int .i64 x ∧ Aside0 (x = (k : Int) ∧ k ≤ l0.length) ∧ wr.ownsMap Try.prog 9 (plainElem Try.prog 4) w.heap.size k D ∧ Aside0 (keyed D (fun s => s ∈ l0.take k)) ∧ Aside0 (Below w.heap.size w wr))
    (fun i _ => l0.length - (intOf i).toNat)
  case atStart => exact ⟨0, 0, .map [], rfl, ⟨rfl, Nat.zero_le _⟩, World.ownsMap_made _ _ _ _, ⟨by simpa using keyed_nil⟩, ⟨(Below.refl _ _).alloc (Nat.le_refl _) _⟩⟩
  case round =>
    obtain ⟨x, k, D, rfl, hk, hown, hkd, hnx⟩ := hrel
    by_cases hlt : k < l0.length
    · have cb : decide (x < (l0.length : Int)) = true := decide_eq_true (by have := hk.out.1; omega)
      have p : 0 ≤ x := by have := hk.out.1; omega
      have q : x < (l0.length : Int) := by have := hk.out.1; omega
      obtain ⟨s, hs⟩ : ∃ s, rdOf ByteArray.empty l0 x = s := ⟨_, rfl⟩
      obtain ⟨ad, e, hx⟩ := Kd.at_string (Kd.C_below HR0.out hnx.out) x p q
      cases e
      rw [hs] at hx
      replace p := eq_true p
      replace q := eq_true q
      have hs' : l0[k] = s := by
        rw [← hs, atS_rd, ← atS_get l0 k hlt]
        have := hk.out.1
        subst this
        rfl
      have hss : s.size ≤ maxLen := by
        rw [← hs']
        exact HZ.out _ (List.getElem_mem hlt)
      have hkey : keyOf Try.prog 9 (.string s) = some (skey s) := Go.WideMaps.keyOf_string_mk Try.underlying9 hss
      have hn : k < maxLen := by have := HL.out; unfold maxLen; omega
      have hkd' : Aside0 (keyed (D.put (skey s) (.lit (.bool true))) (fun x => x ∈ l0.take (k + 1))) := ⟨by
        have := keyed_put hkd.out hown.isMap s (.lit (.bool true))
        rw [← List.take_append_getElem hlt, hs']
        intro y
        refine (this y).trans ?_
        simp only [List.mem_append, List.mem_singleton]⟩
      have hlt' := Aside0.mk hlt
      clear hs hs' hss hlt hkd
      go_wp2_with (first
        | (at_mapUpdate; refine wpList_mapUpdate_own _ rfl _ _ _ 74 rfl 9 4 (Go.Maps.string_keyed Try.underlying9) Try.underlying74 _ w.heap.size k _ rfl hown hn _ _ _ rfl rfl hkey _ [] (plainElem_bool Try.underlying4 true) ?_)
        | go_in)
      intro w1 hown1 hgrow1
      have R2 := Aside0.mk (hnx.out.grown hgrow1 hnx.out.size (fun j hj => by cases hj; exact Nat.le_refl _))
      clear hgrow1 hown hkey hnx
      go_wp2
      go_roundw
      case rel => exact ⟨_, k + 1, _, rfl, ⟨by have := hk.out; have := HL.out; unfold wrap64; omega, hlt'.out⟩, hown1, hkd', R2⟩
      case measure =>
        have := hk.out
        have := HL.out
        have := hlt'.out
        have e : wrap64 (x + 1) = x + 1 := by unfold wrap64; omega
        simp [intOf, e]
        omega
    · have cb : decide (x < (l0.length : Int)) = false := decide_eq_false (by have := hk.out; omega)
      have e : k = l0.length := by have := hk.out.2; omega
      subst e
      have hkd' : Aside0 (keyed D (fun s => s ∈ l0)) := ⟨by have := hkd.out; rwa [List.take_length] at this⟩
      have HB := hnx
      have hown' := Aside0.mk hown
      clear hlt hkd hnx hown
      go_wp2_with (first
        | ((with_reducible refine gate_dst (N := 20) rfl ?_); go_loud (refine Kd.R_lit Kd.string _ 9 ?hg (N := 20) ?hd (xs := ([] : List ByteArray)) (inner := []) (ok := fun _ => True) (okp := fun _ => True) ?hr ?hp (fun _ hk => hk) trivial (Below.refl _ _) (Nat.le_refl _) (by simp) ?_; (case hd => rfl); (case hg => rfl); (case hr => first | (go_simp; done) | (go_simp; rfl)); (case hp => exact (Reps.none _ _)); intro v148 w4 ho5 hb hg_ hnew_; have hown4 := hown'.out.kept hg_ (by simp); have HB4 := Aside0.mk (below_step HB.out hb); have HO4 := Aside0.mk (Kd.R_mono (Kd.R_lower (Kd.R_bound ho5) (below_size HB.out)) (ok' := fun k_ => k_ ≠ w.heap.size ∧ k_ ≠ w4.heap.size) (fun k_ hk_ => ⟨by have := hk_.2.1; have := hown'.out.lt; omega, by have := hk_.2.2.1; omega⟩)); clear ho5 hb hg_ hnew_ HB hown'))
        | (at_range; go_loud (refine wpList_range_own _ rfl _ 74 rfl 9 4 (Go.Maps.string_keyed Try.underlying9) Try.underlying74 _ w.heap.size _ D rfl hown4 ?_; intro w0 hrg0 hg0 hs0))
        | go_in)
      go_frame
      have HB0 := Aside0.mk (HB4.out.grown hg0 (HB4.out.size) (fun j hj => by cases hj))
      have HO0 := Aside0.mk (Kd.R_step HO4.out (fun k_ _ hlt_ => hg0.block k_ hlt_ (by simp)))
      have hsz0 := Aside0.mk (ownsMap_size hown4)
      have H4 := Aside0.mk (below_size HB4.out)
      clear hown4 hg0 hs0 HB4 HO4
      go_loopw [6] (fun v6 wr2 => ∃ (ss : List (List UInt8)) (left : Lit → Bool) (cnt : Nat), wr2.ranges Try.prog 9 (plainElem Try.prog 4) w.heap.size w4.heap.size l0.length D left cnt ∧ Aside0 (Collected D left ss) ∧ Aside0 (ss.length + cnt ≤ l0.length) ∧ Aside0 (Kd.R Kd.string 9 wr2 w.heap.size (fun k_ => k_ ≠ w.heap.size ∧ k_ ≠ w4.heap.size) v6 (ss.map mkS)) ∧ Aside0 (Below w.heap.size w wr2))
        (fun _ wr2 => wr2.rangeLeft w.heap.size w4.heap.size)
      case atStart => exact ⟨[], _, _, hrg0, ⟨Collected.start D⟩, ⟨by have := hsz0.out; simpa using this⟩, HO0, HB0⟩
      case round =>
        clear HO0 HB0 hrg0 hsz0
        obtain ⟨ss, left, cnt, hrg, hC, hN, HO, HB⟩ := hrel
        go_wp2_with (first
          | (at_next; refine wpList_next_ranges _ rfl _ rfl 9 (Go.Maps.string_keyed Try.underlying9) (plainElem Try.prog 4) (fun x => Value.string (mkS x)) Value.bool (keyOf_str_inv Try.underlying9) (plainElem_bool_inv Try.underlying4) w.heap.size w4.heap.size l0.length D left cnt rfl hrg ?aD ?aM; (case' aD => (intro hc0 hl0; have HD0 := Aside0.mk hl0; clear hc0 hl0)); (case' aM => (intro x c kl y w1 cnt1 hkey hlk hv hat hrg1 hlt1 hg1 hs1 hen; obtain ⟨x', ex, rfl, _⟩ := Maps.keyOf_str Try.underlying9 hkey; obtain rfl := encStr_inj (x := x) ex; have HC1 := Aside0.mk (hC.out.step hlk hat); have HRG := Aside0.mk hrg1; have HLT := Aside0.mk hlt1; have HB1 := Aside0.mk (HB.out.grown hg1 HB.out.size (fun j hj => by cases hj; exact H4.out)); have HO1 := Aside0.mk (Kd.R_step HO.out (fun k_ hk_ hlt_ => hg1.block k_ hlt_ (fun e => hk_.2 (by injection e)))); have HOR := Aside0.mk hrg; clear hkey hlk hv hat hrg1 hlt1 hg1 hs1 hrg ex hC HO HB)))
          | ((with_reducible refine gate_builtin (b := .append) (xs := #[.tmp 27, .tmp 29]) rfl ?_); at_builtin; go_loud (refine Kd.R_append Kd.string (w0 := w) w.heap.size rfl (.tmp 27) (.tmp 29) 29 9 (.string ⟨#[]⟩) 16 rfl Try.underlying29 info9 rfl (by decide) (by omega) u6 (ss.map mkS) (mkS x) [.string (mkS x)] (fun k_ => k_ ≠ w.heap.size ∧ k_ ≠ w4.heap.size) (fun _ => False) rfl rfl ?aP (fun _ hk => hk.elim) ?aF ?aO ?aB ?aS ?aL ?_; (case aP => exact rfl); (case aF => exact (fun k_ hk_ => ⟨by have := HRG.out.owns.lt; omega, by have := HRG.out.lt; omega⟩)); (case aO => exact HO1.out); (case aB => exact HB1.out); (case aS => exact below_size HB1.out); (case aL => have := hN.out; have := HL.out; simp only [List.length_map]; omega); intro v166 w26 ho hb hg hat; have HRG2 := Aside0.mk (HRG.out.kept hg (fun e => (HO1.out.1 _ e.symm).1 rfl) (fun e => (HO1.out.1 _ e.symm).2 rfl)); have HO2 := Aside0.mk ho; have HB2 := Aside0.mk hb; clear ho hb hg hat HRG HO1 HB1))
          | go_in)
        · refine ⟨⟨ss ++ [x], _, cnt1, HRG2.out, HC1, ⟨by have := hN.out; have := HLT.out; simp only [List.length_append, List.length_singleton]; omega⟩, ⟨by rw [List.map_append]; exact HO2.out⟩, HB2⟩, ?_⟩
          rw [HRG2.out.left_eq, HOR.out.left_eq]
          exact HLT.out
        · have HM2 := Aside0.mk (fun s => collected_mem hC.out HD0.out hkd'.out s)
          have HP := Aside0.mk (apartS_of (collected_nodup hC.out))
          have HQ := Aside0.mk (Kd.R_mono HO.out (ok' := fun _ => True) (fun _ _ => trivial))
          have HN := Aside0.mk (show (ss.map mkS).length ≤ 1000000 by have := hN.out; have := HL.out; simp only [List.length_map]; omega)
          obtain ⟨xs0, hxs0⟩ : ∃ xs0, ss.map mkS = xs0 := ⟨_, rfl⟩
          rw [hxs0] at HM2 HP HQ HN
          clear hxs0 hC HD0 hkd' HO hN hrg H4 HC0 HR0 HZ HL hk cb hmm
          obtain ⟨Ao, co, eo⟩ := Kd.R_slice HQ.out
          subst eo
          go_loopw [8] (fun v8 wo => ∃ (x8 : Int) (k : Nat) (xs : List ByteArray), v8 = .int .i64 x8 ∧ Aside0 (x8 = (k : Int) ∧ 1 ≤ k ∧ xs.length = xs0.length ∧ ordS xs k k ∧ apartS xs ∧ ∀ s, s ∈ xs ↔ s ∈ l0) ∧ Aside0 (Kd.R Kd.string 9 wo w.heap.size (fun _ => True) (.slice Ao xs0.length co) xs) ∧ Aside0 (Below w.heap.size w wo))
            (fun v8 _ => xs0.length - (intOf v8).toNat)
          case atStart => exact ⟨1, 1, xs0, rfl, ⟨rfl, Nat.le_refl _, rfl, fun a b hab hb hne => by omega, HP.out, HM2.out⟩, HQ, HB⟩
          case round =>
            clear HM2 HP HQ HB
            obtain ⟨x8, k, xs, rfl, hk, HQ, HB⟩ := hrel
            by_cases hlt : k < xs0.length
            · have cb : decide (x8 < (xs0.length : Int)) = true := decide_eq_true (by have := hk.out.1; omega)
              have hlt' := Aside0.mk hlt
              clear hlt
              go_wp2
              go_loopw [9] (fun v9 wi => ∃ (y : Int) (j : Nat) (ys : List ByteArray), v9 = .int .i64 y ∧ Aside0 (y = (j : Int) ∧ j ≤ k ∧ ys.length = xs0.length ∧ ordS ys k j ∧ apartS ys ∧ ∀ s, s ∈ ys ↔ s ∈ l0) ∧ Aside0 (Kd.R Kd.string 9 wi w.heap.size (fun _ => True) (.slice Ao xs0.length co) ys) ∧ Aside0 (Below w.heap.size w wi))
                (fun v9 _ => (intOf v9).toNat)
              case atStart => exact ⟨x8, k, xs, rfl, ⟨hk.out.1, Nat.le_refl _, hk.out.2.2.1, hk.out.2.2.2.1, hk.out.2.2.2.2.1, hk.out.2.2.2.2.2⟩, HQ, HB⟩
              case round =>
                clear HQ HB
                obtain ⟨y, j, ys, rfl, hj, HQ, HB⟩ := hrel
                by_cases h0 : 0 < y
                · have g0 : decide (0 < y) = true := decide_eq_true h0
                  have hlen' : j < ys.length := by have := hj.out.2.1; have := hj.out.2.2.1; have := hlt'.out; omega
                  obtain ⟨g, cap, eo, gb, gl, cells, HG⟩ := Kd.R_form HQ.out (by omega)
                  injection eo with ea en ec
                  subst ea
                  subst ec
                  have GB := Aside0.mk gb
                  clear en gb gl HG cells
                  obtain ⟨z, hz⟩ : ∃ z : Int, wrap64 (y - 1) = z := ⟨_, rfl⟩
                  have hzw : (IntKind.i64.wrap (y - 1)) = z := (i64_w _).trans hz
                  have hzj : Aside0 (z = ((j - 1 : Nat) : Int)) := ⟨by have := hj.out.1; have := HN.out; have := hj.out.2.2.1; rw [← hz]; unfold wrap64; omega⟩
                  have pz : 0 ≤ z := by have := hzj.out; omega
                  have qz : z < (xs0.length : Int) := by have := hzj.out; have := hj.out.2.2.1; omega
                  have py : 0 ≤ y := by omega
                  have qy : y < (xs0.length : Int) := by have := hj.out.1; have := hj.out.2.2.1; omega
                  obtain ⟨hx1, hf1⟩ := Kd.R_celln (⟨#[]⟩ : ByteArray) HQ.out z pz qz
                  obtain ⟨hx2, hf2⟩ := Kd.R_celln (⟨#[]⟩ : ByteArray) HQ.out y py qy
                  obtain ⟨sa, hsa⟩ : ∃ s, rdOf (⟨#[]⟩ : ByteArray) ys z = s := ⟨_, rfl⟩
                  obtain ⟨sb, hsb⟩ : ∃ s, rdOf (⟨#[]⟩ : ByteArray) ys y = s := ⟨_, rfl⟩
                  rw [hsa] at hx1
                  rw [hsb] at hx2
                  have ea : Aside0 (atS ys (j - 1) = sa) := ⟨by rw [← hsa, hzj.out]; rfl⟩
                  have eb : Aside0 (atS ys j = sb) := ⟨by rw [← hsb, hj.out.1]; rfl⟩
                  have hne : (sa.toList == sb.toList) = false := by
                    rw [beq_eq_false_iff_ne]
                    intro e
                    have := toList_inj e
                    rw [← ea.out, ← eb.out] at this
                    exact hj.out.2.2.2.2.1 (j - 1) j (by have := hj.out.1; omega) hlen' this
                  have h0' := Aside0.mk h0
                  have hl' := Aside0.mk hlen'
                  replace pz := eq_true pz
                  replace qz := eq_true qz
                  replace py := eq_true py
                  replace qy := eq_true qy
                  clear hsa hsb h0 hlen' hz
                  by_cases hl : ltS sb sa
                  · have hb : Op.bytesLess sa.toList sb.toList = false := by
                      cases h : Op.bytesLess sa.toList sb.toList
                      · rfl
                      · exact (ltS_asym hl h).elim
                    have hl2 := Aside0.mk hl
                    clear hl
                    have HW := fun n => Kd.R_putg (Kd.R_drewN HQ.out n) z sb
                    have hf3 := fun n => (Kd.R_celln (⟨#[]⟩ : ByteArray) (HW n).1 y (of_eq_true py) (of_eq_true qy)).1
                    have hf4 := fun n => (Kd.R_celln (⟨#[]⟩ : ByteArray) (HW n).1 y (of_eq_true py) (of_eq_true qy)).2
                    have HW2 := Aside0.mk (fun n => (Kd.R_putg (HW n).1 y sa).1)
                    clear HW
                    go_wp2
                    repeat (go_quiet (fail); try go_wp2)
                    go_big_region
                    clear hf3 hf4 hx1 hx2 hf1 hf2 hb hne
                    go_wp2
                    go_roundw
                    case rel => exact ⟨_, j - 1, swp ys j, rfl, ⟨hzj.out, by have := hj.out.2.1; omega, by rw [swp_len]; exact hj.out.2.2.1, ordS_step hj.out.2.2.2.1 zg11 hj.out.2.1 zg12 (by rw [ea.out, eb.out]; exact hl2.out), swp_apart hj.out.2.2.2.2.1 zg11 hl'.out, fun s => (swp_mem zg11 hl'.out s).trans (hj.out.2.2.2.2.2 s)⟩, ⟨by
                      have h := HW2.out
                      have e1 : z.toNat = j - 1 := by rw [hzj.out]; rfl
                      have e2 : y.toNat = j := by rw [hj.out.1]; rfl
                      have e : (ys.set z.toNat sb).set y.toNat sa = swp ys j := by rw [e1, e2, swp, ea.out, eb.out]
                      rw [e] at h
                      (with_reducible repeat (first | apply Kd.R_alloc | apply Kd.R_drewN | apply Kd.R_drew))
                      exact h _⟩, ⟨below_set (below_set zg4 GB.out) GB.out⟩⟩
                    case measure =>
                      have := hzj.out
                      have := hj.out.1
                      have := h0'.out
                      simp [intOf]
                      omega
                  · have hb : Op.bytesLess sa.toList sb.toList = true := by
                      by_cases h : ltS sa sb
                      · exact h
                      · exact (hl (ltS_tri h (fun e => by rw [e] at hne; simp at hne))).elim
                    have hE := Aside0.mk (ordS_next (ordS_stop hj.out.2.2.2.1 hj.out.2.1 zg12 hj.out.2.2.2.2.1 (Or.inr (by rw [ea.out, eb.out]; exact hl))))
                    clear hl
                    go_wp2
                    repeat (go_quiet (fail); try go_wp2)
                    go_roundw
                    case rel => exact ⟨_, k + 1, ys, rfl, ⟨zg13, by omega, hj.out.2.2.1, hE.out, hj.out.2.2.2.2.1, hj.out.2.2.2.2.2⟩, ⟨zg14⟩, ⟨zg4⟩⟩
                    case measure =>
                      have := hk.out.1
                      have := HN.out
                      have := hlt'.out
                      have e : wrap64 (x8 + 1) = x8 + 1 := by unfold wrap64; omega
                      simp [intOf, e]
                      omega
                · have g0 : decide (0 < y) = false := decide_eq_false h0
                  have hE := Aside0.mk (ordS_next (ordS_stop hj.out.2.2.2.1 hj.out.2.1 zg12 hj.out.2.2.2.2.1 (Or.inl (by have := hj.out.1; omega))))
                  clear h0
                  go_wp2
                  repeat (go_quiet (fail); try go_wp2)
                  go_roundw
                  case rel => exact ⟨_, k + 1, ys, rfl, ⟨zg13, by omega, hj.out.2.2.1, hE.out, hj.out.2.2.2.2.1, hj.out.2.2.2.2.2⟩, ⟨zg14⟩, ⟨zg4⟩⟩
                  case measure =>
                    have := hk.out.1
                    have := HN.out
                    have := hlt'.out
                    have e : wrap64 (x8 + 1) = x8 + 1 := by unfold wrap64; omega
                    simp [intOf, e]
                    omega
            · have cb : decide (x8 < (xs0.length : Int)) = false := decide_eq_false (by have := hk.out.1; omega)
              have HE := Aside0.mk (asc_uniq (ordS_asc hk.out.2.2.2.1 (by have := hk.out.2.2.1; omega)) HA.out (fun s => (hk.out.2.2.2.2.2 s).trans (HM.out s).symm))
              clear hlt hk
              go_wp2
              go_ret
              refine ⟨_, rfl, ?_, HB.out⟩
              have := HQ.out
              rw [← HE.out]
              exact this
def insS : List ByteArray → ByteArray → List ByteArray
 | [], s => [s]
 | a :: r, s => if Op.bytesLess a.toList s.toList = true then a :: insS r s else if a.toList = s.toList then a :: r else s :: a :: r
def delS (l : List ByteArray) (s : ByteArray) : List ByteArray := l.filter fun a => decide (a.toList ≠ s.toList)
theorem mem_insS (l : List ByteArray) (s x : ByteArray) : x ∈ insS l s ↔ (x ∈ l ∨ x = s) := by
  induction l with
  | nil => simp [insS]
  | cons a r ih =>
    unfold insS
    by_cases h : Op.bytesLess a.toList s.toList = true
    · rw [if_pos h, List.mem_cons, ih, List.mem_cons, or_assoc]
    · rw [if_neg h]
      by_cases h2 : a.toList = s.toList
      · rw [if_pos h2, toList_inj h2]
        simp only [List.mem_cons]
        constructor
        · exact fun h => Or.inl h
        · rintro (h | h)
          · exact h
          · exact Or.inl h
      · rw [if_neg h2]
        simp only [List.mem_cons]
        constructor
        · rintro (h | h)
          · exact Or.inr h
          · exact Or.inl h
        · rintro (h | h)
          · exact Or.inr h
          · exact Or.inl h
theorem asc_insS {l : List ByteArray} (h : asc l) (s : ByteArray) : asc (insS l s) := by
  induction l with
  | nil => simp [insS, asc]
  | cons a r ih =>
    obtain ⟨h1, h2⟩ := List.pairwise_cons.1 h
    unfold insS
    by_cases c : Op.bytesLess a.toList s.toList = true
    · rw [if_pos c]
      refine List.pairwise_cons.2 ⟨fun x hx => ?_, ih h2⟩
      rcases (mem_insS r s x).1 hx with hx | rfl
      · exact h1 x hx
      · exact c
    · rw [if_neg c]
      by_cases c2 : a.toList = s.toList
      · rw [if_pos c2]
        exact h
      · rw [if_neg c2]
        have c3 : ltS s a := ltS_tri (show ¬ ltS a s from c) (fun e => c2 (by rw [e]))
        refine List.pairwise_cons.2 ⟨fun x hx => ?_, h⟩
        rcases List.mem_cons.1 hx with rfl | hx
        · exact c3
        · exact ltS_trans c3 (h1 x hx)
theorem sortW_mem (l : List ByteArray) : ∀ a : List ByteArray, ∀ s, s ∈ l.foldl insS a ↔ (s ∈ a ∨ s ∈ l) := by
  induction l with
  | nil => intro a s; simp
  | cons x l ih =>
    intro a s
    rw [List.foldl_cons, ih, mem_insS, List.mem_cons]
    constructor
    · rintro ((h | h) | h)
      · exact Or.inl h
      · exact Or.inr (Or.inl h)
      · exact Or.inr (Or.inr h)
    · rintro (h | h | h)
      · exact Or.inl (Or.inl h)
      · exact Or.inl (Or.inr h)
      · exact Or.inr h
theorem sortW_asc (l : List ByteArray) : ∀ a : List ByteArray, asc a → asc (l.foldl insS a) := by
  induction l with
  | nil => intro a h; exact h
  | cons x l ih => intro a h; exact ih _ (asc_insS h x)
def impl_sortedSet.f (l0 : List ByteArray) : Option (List ByteArray) := if l0.length ≤ 1000000 ∧ (l0.all fun s => decide (s.size ≤ maxLen)) = true then some (l0.foldl insS []) else none
theorem impl_sortedSet.calls (A0 : Option Addr) (c0 : Nat) (l0 : List ByteArray) (r : List ByteArray) (w : World) (hr0 : Kd.C Kd.string w A0 l0.length l0) (hc0 : l0.length ≤ c0) (h : impl_sortedSet.f l0 = some r) :
    Calls Try.prog 81 #[.slice A0 l0.length c0] w fun e w' => ∃ v0_ : Value, e = .returned (v0_) ∧ Kd.R Kd.string 9 w' w.heap.size (fun _ => True) v0_ r ∧ Below w.heap.size w w' := by
  unfold impl_sortedSet.f at h
  by_cases c : l0.length ≤ 1000000 ∧ (l0.all fun s => decide (s.size ≤ maxLen)) = true
  · rw [if_pos c] at h
    obtain rfl := Option.some.inj h
    exact impl_sortedSet_calls A0 c0 l0 _ w hr0 hc0 c.1 (fun s hs => of_decide_eq_true (List.all_eq_true.mp c.2 s hs)) (sortW_asc l0 [] List.Pairwise.nil) (fun s => by rw [sortW_mem]; simp)
  · rw [if_neg c] at h
    exact absurd h (by simp)

-- NOT PRINTED: function 57 (impl_keysOf)

end Go.Proofs.Ytnahkojlamficaa.PFnFailing
