-- Laid by a program of this session: a turned copy of the kit's print, with contracts by hand beside.
import Derived.Test.YtnahkojlamficaaPFnExactFailingx0
import Derived.Test.YtnahkojlamficaaPFnExactFailingx5
import Derived.Test.YtnahkojlamficaaPFnExactFailingx6
namespace Go.Proofs.Ytnahkojlamficaa.PFnExactFailing
open Go.RowKit Go.Proofs.YtnahkojlamficaaW.PrintWords Go.Proofs.YtnahkojlamficaaW.PrintLast Go.Proofs.YtnahkojlamficaaW.PrintMore
attribute [local go_sem] max2_int min2_int max_two min_two max_three min_three max_four min_four   -- for this text's walks alone
set_option linter.unusedVariables false
set_option linter.unusedSimpArgs false

/-! ### spec_Failing: function 28 -/
mutual
def spec_Failing.j0 : Nat → List (S55) → List ByteArray → List ByteArray → Bool → Option (List ByteArray)
  | 0, _, _, _, _ => none
  | k + 1, x0, x1, x5, x19 => if x19 = true then (some x5) else (spec_Failing.l0 k x0 x1 x5 0)
def spec_Failing.l0 : Nat → List (S55) → List ByteArray → List ByteArray → Int → Option (List ByteArray)
  | 0, _, _, _, _ => none
  | k + 1, x0, x1, x5, x6 => if x6 ≤ (x0.length : Int) then (spec_Failing.l1 k x0 x1 x5 x6 0) else (some x5)
def spec_Failing.l1 : Nat → List (S55) → List ByteArray → List ByteArray → Int → Int → Option (List ByteArray)
  | 0, _, _, _, _, _ => none
  | k + 1, x0, x1, x5, x6, x7 => if x7 < (x0.length : Int) then (if 0 ≤ x7 then ((spec_l3Has.f k x1 ((rd_T55 x0 x7).f0)).bind fun t219 => (spec_Failing.l2 k x0 x1 x5 x6 x7 t219 0 ((rd_T55 x0 x7).f0) ((rd_T55 x0 x7).f1) ((rd_T55 x0 x7).f2) ((rd_T55 x0 x7).f3) ((rd_T55 x0 x7).f4))) else (none)) else (spec_Failing.l0 k x0 x1 x5 (wrap64 (x6 + 1)))
def spec_Failing.l2 : Nat → List (S55) → List ByteArray → List ByteArray → Int → Int → Bool → Int → ByteArray → List ByteArray → List ByteArray → ByteArray → Bool → Option (List ByteArray)
  | 0, _, _, _, _, _, _, _, _, _, _, _, _ => none
  | k + 1, x0, x1, x5, x6, x7, x9, x10, x219000, x219001, x219002, x219003, x219004 => if x10 < (x219002.length : Int) then (if x9 = true then (spec_Failing.l2 k x0 x1 x5 x6 x7 true (wrap64 (x10 + 1)) x219000 x219001 x219002 x219003 x219004) else (if 0 ≤ x10 then ((spec_l3Has.f k x5 (rdOf ByteArray.empty x219002 x10)).bind fun t221 => (if t221 = true then (spec_Failing.l2 k x0 x1 x5 x6 x7 true (wrap64 (x10 + 1)) x219000 x219001 x219002 x219003 x219004) else ((spec_l18Find.f k x0 (rdOf ByteArray.empty x219002 x10)).bind fun t223 => (spec_Failing.l2 k x0 x1 x5 x6 x7 (decide (t223 < 0)) (wrap64 (x10 + 1)) x219000 x219001 x219002 x219003 x219004)))) else (none))) else (if x9 = true then ((spec_l3Add.f k x5 x219000).bind fun t224 => (spec_Failing.l1 k x0 x1 t224 x6 (wrap64 (x7 + 1)))) else (spec_Failing.l1 k x0 x1 x5 x6 (wrap64 (x7 + 1))))
end
def spec_Failing.f (k : Nat) (l0 : List (S55)) (l1 : List ByteArray) : Option (List ByteArray) := (some (([] : List ByteArray) : List ByteArray)).bind fun y213 => ((spec_UnitsOk.f k l0).bind fun t216 => (if t216 = true then (spec_Failing.j0 k l0 l1 y213 (decide ((l1.length : Int) > 2000))) else (spec_Failing.j0 k l0 l1 y213 true)))
theorem spec_Failing.mono_l : ∀ k, (∀ y0 y1 y2 y3, LeO (spec_Failing.j0 k y0 y1 y2 y3) (spec_Failing.j0 (k + 1) y0 y1 y2 y3)) ∧ (∀ y0 y1 y2 y3, LeO (spec_Failing.l0 k y0 y1 y2 y3) (spec_Failing.l0 (k + 1) y0 y1 y2 y3)) ∧ (∀ y0 y1 y2 y3 y4, LeO (spec_Failing.l1 k y0 y1 y2 y3 y4) (spec_Failing.l1 (k + 1) y0 y1 y2 y3 y4)) ∧ (∀ y0 y1 y2 y3 y4 y5 y6 y7 y8 y9 y10 y11, LeO (spec_Failing.l2 k y0 y1 y2 y3 y4 y5 y6 y7 y8 y9 y10 y11) (spec_Failing.l2 (k + 1) y0 y1 y2 y3 y4 y5 y6 y7 y8 y9 y10 y11))
  | 0 => ⟨fun _ _ _ _ r h => by simp [spec_Failing.j0] at h, fun _ _ _ _ r h => by simp [spec_Failing.l0] at h, fun _ _ _ _ _ r h => by simp [spec_Failing.l1] at h, fun _ _ _ _ _ _ _ _ _ _ _ _ r h => by simp [spec_Failing.l2] at h⟩
  | k + 1 => by
    obtain ⟨ih0, ih1, ih2, ih3⟩ := spec_Failing.mono_l k
    refine ⟨?_, ?_, ?_, ?_⟩
    · intro y0 y1 y2 y3
      unfold spec_Failing.j0
      repeat' first
      | (with_reducible exact ih0 _ _ _ _)
      | (with_reducible exact ih1 _ _ _ _)
      | (with_reducible exact ih2 _ _ _ _ _)
      | (with_reducible exact ih3 _ _ _ _ _ _ _ _ _ _ _ _)
      | (with_reducible exact spec_UnitsOk.mono _ _)
      | (with_reducible exact spec_l18Find.mono _ _ _)
      | (with_reducible exact spec_l3Add.mono _ _ _)
      | (with_reducible exact spec_l3Has.mono _ _ _)
      | (with_reducible exact LeO.refl _)
      | (with_reducible exact LeO.none _)
      | (with_reducible refine LeO.ite ?_ ?_)
      | (with_reducible refine LeO.bind ?_ (fun _ => ?_))
      | exact ih0 _ _ _ _
      | exact ih1 _ _ _ _
      | exact ih2 _ _ _ _ _
      | exact ih3 _ _ _ _ _ _ _ _ _ _ _ _
      | exact spec_UnitsOk.mono _ _
      | exact spec_l18Find.mono _ _ _
      | exact spec_l3Add.mono _ _ _
      | exact spec_l3Has.mono _ _ _
      | exact LeO.none _
      | refine LeO.ite ?_ ?_
      | refine LeO.bind ?_ (fun _ => ?_)
    · intro y0 y1 y2 y3
      unfold spec_Failing.l0
      repeat' first
      | (with_reducible exact ih0 _ _ _ _)
      | (with_reducible exact ih1 _ _ _ _)
      | (with_reducible exact ih2 _ _ _ _ _)
      | (with_reducible exact ih3 _ _ _ _ _ _ _ _ _ _ _ _)
      | (with_reducible exact spec_UnitsOk.mono _ _)
      | (with_reducible exact spec_l18Find.mono _ _ _)
      | (with_reducible exact spec_l3Add.mono _ _ _)
      | (with_reducible exact spec_l3Has.mono _ _ _)
      | (with_reducible exact LeO.refl _)
      | (with_reducible exact LeO.none _)
      | (with_reducible refine LeO.ite ?_ ?_)
      | (with_reducible refine LeO.bind ?_ (fun _ => ?_))
      | exact ih0 _ _ _ _
      | exact ih1 _ _ _ _
      | exact ih2 _ _ _ _ _
      | exact ih3 _ _ _ _ _ _ _ _ _ _ _ _
      | exact spec_UnitsOk.mono _ _
      | exact spec_l18Find.mono _ _ _
      | exact spec_l3Add.mono _ _ _
      | exact spec_l3Has.mono _ _ _
      | exact LeO.none _
      | refine LeO.ite ?_ ?_
      | refine LeO.bind ?_ (fun _ => ?_)
    · intro y0 y1 y2 y3 y4
      unfold spec_Failing.l1
      repeat' first
      | (with_reducible exact ih0 _ _ _ _)
      | (with_reducible exact ih1 _ _ _ _)
      | (with_reducible exact ih2 _ _ _ _ _)
      | (with_reducible exact ih3 _ _ _ _ _ _ _ _ _ _ _ _)
      | (with_reducible exact spec_UnitsOk.mono _ _)
      | (with_reducible exact spec_l18Find.mono _ _ _)
      | (with_reducible exact spec_l3Add.mono _ _ _)
      | (with_reducible exact spec_l3Has.mono _ _ _)
      | (with_reducible exact LeO.refl _)
      | (with_reducible exact LeO.none _)
      | (with_reducible refine LeO.ite ?_ ?_)
      | (with_reducible refine LeO.bind ?_ (fun _ => ?_))
      | exact ih0 _ _ _ _
      | exact ih1 _ _ _ _
      | exact ih2 _ _ _ _ _
      | exact ih3 _ _ _ _ _ _ _ _ _ _ _ _
      | exact spec_UnitsOk.mono _ _
      | exact spec_l18Find.mono _ _ _
      | exact spec_l3Add.mono _ _ _
      | exact spec_l3Has.mono _ _ _
      | exact LeO.none _
      | refine LeO.ite ?_ ?_
      | refine LeO.bind ?_ (fun _ => ?_)
    · intro y0 y1 y2 y3 y4 y5 y6 y7 y8 y9 y10 y11
      unfold spec_Failing.l2
      repeat' first
      | (with_reducible exact ih0 _ _ _ _)
      | (with_reducible exact ih1 _ _ _ _)
      | (with_reducible exact ih2 _ _ _ _ _)
      | (with_reducible exact ih3 _ _ _ _ _ _ _ _ _ _ _ _)
      | (with_reducible exact spec_UnitsOk.mono _ _)
      | (with_reducible exact spec_l18Find.mono _ _ _)
      | (with_reducible exact spec_l3Add.mono _ _ _)
      | (with_reducible exact spec_l3Has.mono _ _ _)
      | (with_reducible exact LeO.refl _)
      | (with_reducible exact LeO.none _)
      | (with_reducible refine LeO.ite ?_ ?_)
      | (with_reducible refine LeO.bind ?_ (fun _ => ?_))
      | exact ih0 _ _ _ _
      | exact ih1 _ _ _ _
      | exact ih2 _ _ _ _ _
      | exact ih3 _ _ _ _ _ _ _ _ _ _ _ _
      | exact spec_UnitsOk.mono _ _
      | exact spec_l18Find.mono _ _ _
      | exact spec_l3Add.mono _ _ _
      | exact spec_l3Has.mono _ _ _
      | exact LeO.none _
      | refine LeO.ite ?_ ?_
      | refine LeO.bind ?_ (fun _ => ?_)
theorem spec_Failing.mono : ∀ a0 a1 k, LeO (spec_Failing.f k a0 a1) (spec_Failing.f (k + 1) a0 a1) := by
  intro a0 a1 k
  obtain ⟨ih0, ih1, ih2, ih3⟩ := spec_Failing.mono_l k
  unfold spec_Failing.f
  repeat' first
      | (with_reducible exact ih0 _ _ _ _)
      | (with_reducible exact ih1 _ _ _ _)
      | (with_reducible exact ih2 _ _ _ _ _)
      | (with_reducible exact ih3 _ _ _ _ _ _ _ _ _ _ _ _)
      | (with_reducible exact spec_UnitsOk.mono _ _)
      | (with_reducible exact spec_l18Find.mono _ _ _)
      | (with_reducible exact spec_l3Add.mono _ _ _)
      | (with_reducible exact spec_l3Has.mono _ _ _)
      | (with_reducible exact LeO.refl _)
      | (with_reducible exact LeO.none _)
      | (with_reducible refine LeO.ite ?_ ?_)
      | (with_reducible refine LeO.bind ?_ (fun _ => ?_))
      | exact ih0 _ _ _ _
      | exact ih1 _ _ _ _
      | exact ih2 _ _ _ _ _
      | exact ih3 _ _ _ _ _ _ _ _ _ _ _ _
      | exact spec_UnitsOk.mono _ _
      | exact spec_l18Find.mono _ _ _
      | exact spec_l3Add.mono _ _ _
      | exact spec_l3Has.mono _ _ _
      | exact LeO.none _
      | refine LeO.ite ?_ ?_
      | refine LeO.bind ?_ (fun _ => ?_)
set_option maxHeartbeats 8000000 in
set_option maxRecDepth 100000 in
theorem spec_Failing.calls (k : Nat) (A0 : Option Addr) (c0 : Nat) (l0 : List (S55)) (A1 : Option Addr) (c1 : Nat) (l1 : List ByteArray) (r : List ByteArray) (w : World) (hr0 : Kd.C k55 w A0 l0.length l0) (hc0 : l0.length ≤ c0) (hr1 : Kd.C Kd.string w A1 l1.length l1) (hc1 : l1.length ≤ c1) (h : spec_Failing.f k l0 l1 = some r) :
    Calls Try.prog 28 #[.slice A0 l0.length c0, .slice A1 l1.length c1] w fun e w' => ∃ v0_ : Value, e = .returned (v0_) ∧ Kd.R Kd.string 9 w' w.heap.size (fun _ => True) v0_ r ∧ Below w.heap.size w w' := by
  have hu55 := Try.underlying55
  have HR0 := Aside0.mk hr0
  have HC0 := Aside0.mk hc0
  clear hr0 hc0
  have HR1 := Aside0.mk hr1
  have HC1 := Aside0.mk hc1
  clear hr1 hc1
  have HB := Aside0.mk (Below.refl w.heap.size w)
  have H : ((some (([] : List ByteArray) : List ByteArray)).bind fun y213 => ((spec_UnitsOk.f k l0).bind fun t216 => (if t216 = true then (spec_Failing.j0 k l0 l1 y213 (decide ((l1.length : Int) > 2000))) else (spec_Failing.j0 k l0 l1 y213 true)))) = some r := h
  clear h
  obtain ⟨y213, hy213⟩ : ∃ y_ : List ByteArray, y_ = (([] : List ByteArray)) := ⟨_, rfl⟩
  replace H : ((spec_UnitsOk.f k l0).bind fun t216 => (if t216 = true then (spec_Failing.j0 k l0 l1 y213 (decide ((l1.length : Int) > 2000))) else (spec_Failing.j0 k l0 l1 y213 true))) = some r := by first | (rw [hy213]; with_reducible exact H) | (have H2_ := (Option.bind_some _ _).symm.trans H; rw [hy213]; with_reducible exact H2_) | (have H2_ := (Option.bind_some _ _).symm.trans H; with_reducible exact H2_) | with_reducible exact H | (rw [hy213]; exact H) | exact H
  have Ny213 := Aside0.mk hy213
  clear hy213
  have HC3 := Aside0.mk H
  clear H
  go_enter Try.func28, Try.ntmps28
  go_upto_region 2 with (first | ((with_reducible refine gate_dst (N := 11) rfl ?_); (try (refine gate_guard (by rfl) ?_; dsimp only)); refine Kd.R_lit Kd.string _ 9 ?hg (N := 11) ?hd (xs := ([] : List ByteArray)) (inner := []) (ok := fun _ => True) (okp := fun _ => True) ?hr ?hp (fun _ hk => hk) trivial (Below.refl _ _) (Nat.le_refl _) (by simp) ?_; (case hd => rfl); (case hg => rfl); (case hr => first | (go_simp; done) | (go_simp; rfl)); (case hp => exact (Reps.none _ _)); intro v214 w4 ho5 hb hg_ hnew_; clear hg_ hnew_; (first | rw [← Ny213.out] at ho5 | (simp only [Int.reduceToNat] at ho5; rw [← Ny213.out] at ho5)); have n0_ := Aside0.mk (Kd.R_lower ho5 (below_size (by repeat (first | (with_reducible first | exact HB.out | apply below_alloc | apply pw_below_drewN | apply below_drew1) | exact HB.out)))); have n1_ := Aside0.mk (below_step (by repeat (first | (with_reducible first | exact HB.out | apply below_alloc | apply pw_below_drewN | apply below_drew1) | exact HB.out)) hb); clear HB; have HO215 := n0_; have HB := n1_; clear n0_ n1_; clear hb ho5))
  (try simp only [Act.put, List.setIfInBounds_toArray, List.set_cons_zero, List.set_cons_succ])
  go_cut [19] (fun v19 wc => ∃ (kq : Nat) (x19_2 : Bool), v19 = .bool x19_2 ∧ Aside0 (spec_Failing.j0 kq l0 l1 y213 x19_2 = some r) ∧ Aside0 (kq ≤ k) ∧ Aside0 (Kd.R Kd.string 9 wc w.heap.size (fun _ => True) v214 y213) ∧ Aside0 (Below w.heap.size w wc))
  case first =>
    have H := HC3.out
    clear HC3
    replace H := Option.bind_eq_some_iff.mp H
    obtain ⟨t216, A60, H⟩ := H
    replace H : (if t216 = true then (spec_Failing.j0 k l0 l1 y213 (decide ((l1.length : Int) > 2000))) else (spec_Failing.j0 k l0 l1 y213 true)) = some r := H
    have A6 := Aside0.mk A60
    clear A60
    by_cases c7 : t216 = true
    · subst c7
      have H1 : (spec_Failing.j0 k l0 l1 y213 (decide ((l1.length : Int) > 2000))) = some r := by rw [if_pos rfl] at H; exact H
      clear H
      have H := H1
      clear H1
      have H' := Aside0.mk H
      clear H
      go_wp2_with (first | ((with_reducible refine gate_callee (f := 13) rfl ?_); refine goesL_ (some 13) rfl rfl Try.func13 (by kernel_rfl) rfl #[.slice A0 l0.length c0] rfl (by (try simp only [List.map_toArray, List.map_cons, List.map_nil]); first | done | rfl | (simp only [List.length_drop, List.length_take]; rfl)) ?_; (with_reducible refine (spec_UnitsOk.calls k _ _ l0 true _ ?side1 ?side2 A6.out).mono ?_); (case side1 => repeat (first | exact (Kd.C_below HR0.out HB.out) | (with_reducible refine Kd.C_alloc ?_ _) | (with_reducible refine Kd.C_drewN ?_ _) | (with_reducible refine Kd.C_drew ?_))); (case side2 => exact HC0.out); rintro e w8 ⟨rfl, hb⟩; refine ⟨_, rfl, ?_⟩; have n0_ := Aside0.mk (Kd.R_below (by (with_reducible repeat (first | apply Kd.R_alloc | apply Kd.R_drewN | apply Kd.R_drew)); exact HO215.out) hb); have n1_ := Aside0.mk (below_step (by repeat (first | (with_reducible first | exact HB.out | apply below_alloc | apply pw_below_drewN | apply below_drew1) | exact HB.out)) hb); clear HO215; clear HB; have HO215 := n0_; have HB := n1_; clear n0_ n1_; (try clear hb); (try clear hb2); (try clear hk); (try clear hi)))
      go_meet
      case rel => exact ⟨_, (decide ((l1.length : Int) > 2000)), (by first | rfl | (simp; done) | (simp [*]; done)), H', ⟨by first | omega | exact Nat.le_refl _⟩, ⟨by (with_reducible repeat (first | apply Kd.R_alloc | apply Kd.R_drewN | apply Kd.R_drew)); exact HO215.out⟩, ⟨by repeat (first | (with_reducible first | exact HB.out | apply below_alloc | apply pw_below_drewN | apply below_drew1) | exact HB.out)⟩⟩
    · replace c7 := Bool.eq_false_iff.mpr c7
      subst c7
      have H1 : (spec_Failing.j0 k l0 l1 y213 true) = some r := by rw [if_neg (show ¬ (false = true) by decide)] at H; exact H
      clear H
      have H := H1
      clear H1
      have H' := Aside0.mk H
      clear H
      go_wp2_with (first | ((with_reducible refine gate_callee (f := 13) rfl ?_); refine goesL_ (some 13) rfl rfl Try.func13 (by kernel_rfl) rfl #[.slice A0 l0.length c0] rfl (by (try simp only [List.map_toArray, List.map_cons, List.map_nil]); first | done | rfl | (simp only [List.length_drop, List.length_take]; rfl)) ?_; (with_reducible refine (spec_UnitsOk.calls k _ _ l0 false _ ?side1 ?side2 A6.out).mono ?_); (case side1 => repeat (first | exact (Kd.C_below HR0.out HB.out) | (with_reducible refine Kd.C_alloc ?_ _) | (with_reducible refine Kd.C_drewN ?_ _) | (with_reducible refine Kd.C_drew ?_))); (case side2 => exact HC0.out); rintro e w9 ⟨rfl, hb⟩; refine ⟨_, rfl, ?_⟩; have n0_ := Aside0.mk (Kd.R_below (by (with_reducible repeat (first | apply Kd.R_alloc | apply Kd.R_drewN | apply Kd.R_drew)); exact HO215.out) hb); have n1_ := Aside0.mk (below_step (by repeat (first | (with_reducible first | exact HB.out | apply below_alloc | apply pw_below_drewN | apply below_drew1) | exact HB.out)) hb); clear HO215; clear HB; have HO215 := n0_; have HB := n1_; clear n0_ n1_; (try clear hb); (try clear hb2); (try clear hk); (try clear hi)))
      go_meet
      case rel => exact ⟨_, (true), (by first | rfl | (simp; done) | (simp [*]; done)), H', ⟨by first | omega | exact Nat.le_refl _⟩, ⟨by (with_reducible repeat (first | apply Kd.R_alloc | apply Kd.R_drewN | apply Kd.R_drew)); exact HO215.out⟩, ⟨by repeat (first | (with_reducible first | exact HB.out | apply below_alloc | apply pw_below_drewN | apply below_drew1) | exact HB.out)⟩⟩
  case rest =>
    clear HC3
    try clear c1
    try clear c2
    try clear p2
    try clear c7
    obtain ⟨kq, x19_2, rfl, HA, HJ2, HO_5, HB⟩ := hcut
    cases kq with
    | zero => exact absurd HA.out (by simp [spec_Failing.j0])
    | succ kj2 =>
      have H := HA.out
      clear HA
      simp only [spec_Failing.j0] at H
      by_cases c10 : x19_2 = true
      · subst c10
        have H1 : (some y213) = some r := by rw [if_pos rfl] at H; exact H
        clear H
        have H := H1
        clear H1
        obtain rfl := Option.some.inj H
        go_wp2
        go_ret
        exact ⟨_, by first | rfl | (simp [errW_none, errW_some] <;> rfl) | (simp [*, errW_none, errW_some] <;> rfl), by (with_reducible repeat (first | apply Kd.R_alloc | apply Kd.R_drewN | apply Kd.R_drew)); exact HO_5.out, by repeat (first | (with_reducible first | exact HB.out | apply below_alloc | apply pw_below_drewN | apply below_drew1) | exact HB.out)⟩
      · replace c10 := Bool.eq_false_iff.mpr c10
        subst c10
        have H1 : (spec_Failing.l0 kj2 l0 l1 y213 0) = some r := by rw [if_neg (show ¬ (false = true) by decide)] at H; exact H
        clear H
        have H := H1
        clear H1
        have H' := Aside0.mk H
        clear H
        go_wp2
        go_loopg [5, 6] kj2 (fun kq v5 v6 w' => ∃ (x5_2 : List ByteArray) (x6_2 : Int), v6 = .int .i64 x6_2 ∧ Aside0 (spec_Failing.l0 kq l0 l1 x5_2 x6_2 = some r) ∧ Aside0 (kq ≤ kj2) ∧ Aside0 (Kd.R Kd.string 9 w' w.heap.size (fun _ => True) v5 x5_2) ∧ Aside0 (Below w.heap.size w w'))
        case atStart => exact ⟨(y213), (0), (by first | rfl | (simp; done) | (simp [*]; done)), H', ⟨Nat.le_refl _⟩, ⟨by (with_reducible repeat (first | apply Kd.R_alloc | apply Kd.R_drewN | apply Kd.R_drew)); exact HO_5.out⟩, ⟨by repeat (first | (with_reducible first | exact HB.out | apply below_alloc | apply pw_below_drewN | apply below_drew1) | exact HB.out)⟩⟩
        case round =>
          clear H'
          try clear c1
          try clear c2
          try clear p2
          try clear c7
          try clear c10
          try clear p2
          obtain ⟨x5_2, x6_2, rfl, HA, HK2, HO_5, HB⟩ := hrel
          cases gk with
          | zero => exact absurd HA.out (by simp [spec_Failing.l0])
          | succ k2 =>
            have H := HA.out
            clear HA
            simp only [spec_Failing.l0] at H
            by_cases c11 : x6_2 ≤ (l0.length : Int)
            · rw [if_pos c11] at H
              have c11b0 : decide (x6_2 ≤ (l0.length : Int)) = true := decide_eq_true c11
              clear c11
              have H' := Aside0.mk H
              clear H
              go_wp2
              go_loopg [5, 7] k2 (fun kq v5 v7 w' => ∃ (x5_3 : List ByteArray) (x7_3 : Int), v7 = .int .i64 x7_3 ∧ Aside0 (spec_Failing.l1 kq l0 l1 x5_3 x6_2 x7_3 = some r) ∧ Aside0 (kq ≤ k2) ∧ Aside0 (Kd.R Kd.string 9 w' w.heap.size (fun _ => True) v5 x5_3) ∧ Aside0 (Below w.heap.size w w'))
              case atStart => exact ⟨(x5_2), (0), (by first | rfl | (simp; done) | (simp [*]; done)), H', ⟨Nat.le_refl _⟩, ⟨by (with_reducible repeat (first | apply Kd.R_alloc | apply Kd.R_drewN | apply Kd.R_drew)); exact HO_5.out⟩, ⟨by repeat (first | (with_reducible first | exact HB.out | apply below_alloc | apply pw_below_drewN | apply below_drew1) | exact HB.out)⟩⟩
              case round =>
                clear H'
                try clear c1
                try clear c2
                try clear p2
                try clear c7
                try clear c10
                try clear c11
                try clear c11b0
                try clear p2
                obtain ⟨x5_3, x7_3, rfl, HA, HK3, HO_5, HB⟩ := hrel
                cases gk with
                | zero => exact absurd HA.out (by simp [spec_Failing.l1])
                | succ k3 =>
                  have H := HA.out
                  clear HA
                  simp only [spec_Failing.l1] at H
                  by_cases c12 : x7_3 < (l0.length : Int)
                  · rw [if_pos c12] at H
                    have c12b0 : decide (x7_3 < (l0.length : Int)) = true := decide_eq_true c12
                    clear c12
                    by_cases c13 : 0 ≤ x7_3
                    · rw [if_pos c13] at H
                      have c13b0 : decide (0 ≤ x7_3) = true := decide_eq_true c13
                      clear c13
                      replace H := Option.bind_eq_some_iff.mp H
                      obtain ⟨t219, A140, H⟩ := H
                      replace H : (spec_Failing.l2 k3 l0 l1 x5_3 x6_2 x7_3 t219 0 ((rd_T55 l0 x7_3).f0) ((rd_T55 l0 x7_3).f1) ((rd_T55 l0 x7_3).f2) ((rd_T55 l0 x7_3).f3) ((rd_T55 l0 x7_3).f4)) = some r := H
                      have A14 := Aside0.mk A140
                      clear A140
                      have H' := Aside0.mk H
                      clear H
                      have p217 : 0 ≤ (x7_3 : Int) := of_decide_eq_true (by first | (with_reducible assumption) | assumption)
                      have q217 : x7_3 < (l0.length : Int) := of_decide_eq_true (by first | (with_reducible assumption) | assumption)
                      obtain ⟨ad217, A217_1, c217_1, A217_2, c217_2, e217, hx217_0, hx217_1, hx217_2, hx217_3, hx217_4, hl217_1, hi217_1, hl217_2, hi217_2⟩ := at_T55 HR0.out x7_3 p217 q217
                      cases e217
                      try (replace hx217_0 := (HB.out.cell (World.block_lt_of_cell? w _ hx217_0)).trans hx217_0)
                      try (replace hx217_1 := (HB.out.cell (World.block_lt_of_cell? w _ hx217_1)).trans hx217_1)
                      try (replace hx217_2 := (HB.out.cell (World.block_lt_of_cell? w _ hx217_2)).trans hx217_2)
                      try (replace hx217_3 := (HB.out.cell (World.block_lt_of_cell? w _ hx217_3)).trans hx217_3)
                      try (replace hx217_4 := (HB.out.cell (World.block_lt_of_cell? w _ hx217_4)).trans hx217_4)
                      have HR217_1 := Aside0.mk hi217_1
                      have HC217_1 := Aside0.mk hl217_1
                      clear hi217_1 hl217_1
                      have HR217_2 := Aside0.mk hi217_2
                      have HC217_2 := Aside0.mk hl217_2
                      clear hi217_2 hl217_2
                      replace p217 := eq_true p217
                      replace q217 := eq_true q217
                      go_wp2_with (first | ((with_reducible refine gate_dst (N := 8) rfl ?_); (try (refine gate_guard (by rfl) ?_; dsimp only)); refine box_event ?hg (N := 8) ?hd (cs := #[.string (⟨#[]⟩ : ByteArray), .slice none 0 0, .slice none 0 0, .string (⟨#[]⟩ : ByteArray), .bool false]) (t := 55) ?hr ?_; (case hd => rfl); (case hg => rfl); (case hr => first | (go_simp; done) | (go_simp; rfl)); intro gb218 hg w15 hbox hb; have n0_ := Aside0.mk (Kd.R_below (by (with_reducible repeat (first | apply Kd.R_alloc | apply Kd.R_drewN | apply Kd.R_drew)); exact HO_5.out) hb); have n1_ := Aside0.mk (below_step (by repeat (first | (with_reducible first | exact HB.out | apply below_alloc | apply pw_below_drewN | apply below_drew1) | exact HB.out)) hb); have n2_ := Aside0.mk (hbox); have n3_ := Aside0.mk ((by rw [hg]; exact (below_size (by repeat (first | (with_reducible first | exact HB.out | apply below_alloc | apply pw_below_drewN | apply below_drew1) | exact HB.out))) : w.heap.size ≤ gb218)); have n4_ := Aside0.mk ((by rw [hg]; exact (below_size (by repeat (first | (with_reducible first | exact HB.out | apply below_alloc | apply pw_below_drewN | apply below_drew1) | exact HB.out))) : w.heap.size ≤ gb218)); clear HO_5; clear HB; have HO_5 := n0_; have HB := n1_; have BK218 := n2_; have GW218 := n3_; have GE218 := n4_; clear n0_ n1_ n2_ n3_ n4_; clear hb hbox hg; have hcz16_0 : w15.cell? ⟨gb218, 0, none⟩ = some (.string (⟨#[]⟩ : ByteArray)) := (blk_cell BK218.out 0).trans rfl; have hcz16_1 : w15.cell? ⟨gb218, 1, none⟩ = some (.slice none 0 0) := (blk_cell BK218.out 1).trans rfl; have hcz16_2 : w15.cell? ⟨gb218, 2, none⟩ = some (.slice none 0 0) := (blk_cell BK218.out 2).trans rfl; have hcz16_3 : w15.cell? ⟨gb218, 3, none⟩ = some (.string (⟨#[]⟩ : ByteArray)) := (blk_cell BK218.out 3).trans rfl; have hcz16_4 : w15.cell? ⟨gb218, 4, none⟩ = some (.bool false) := (blk_cell BK218.out 4).trans rfl; have hfz16_0 := blk_frozen BK218.out 0; have hfz16_1 := blk_frozen BK218.out 1; have hfz16_2 := blk_frozen BK218.out 2; have hfz16_3 := blk_frozen BK218.out 3; have hfz16_4 := blk_frozen BK218.out 4) | ((with_reducible refine gate_callee (f := 60) rfl ?_); refine goesL_ (some 40) rfl rfl Try.func60 (by kernel_rfl) rfl #[.slice A1 l1.length c1, .string ((rd_T55 l0 x7_3).f0)] rfl (by (try simp only [List.map_toArray, List.map_cons, List.map_nil]); first | done | rfl | (simp only [List.length_drop, List.length_take]; rfl)) ?_; (with_reducible refine (spec_l3Has.calls k3 _ _ l1 ((rd_T55 l0 x7_3).f0) t219 _ ?side1 ?side2 A14.out).mono ?_); (case side1 => exact Kd.C_below HR1.out (by repeat (first | (with_reducible first | exact HB.out | apply below_alloc | apply pw_below_drewN | apply below_drew1 | refine below_set ?_ GE218.out) | exact HB.out))); (case side2 => exact HC1.out); rintro e w' ⟨rfl, ⟨nd, rfl⟩⟩; refine ⟨_, rfl, ?_⟩))
                      go_loopg [9, 10] k3 (fun kq v9 v10 w' => ∃ (x9_4 : Bool) (x10_4 : Int), v9 = .bool x9_4 ∧ v10 = .int .i64 x10_4 ∧ Aside0 (spec_Failing.l2 kq l0 l1 x5_3 x6_2 x7_3 x9_4 x10_4 ((rd_T55 l0 x7_3).f0) ((rd_T55 l0 x7_3).f1) ((rd_T55 l0 x7_3).f2) ((rd_T55 l0 x7_3).f3) ((rd_T55 l0 x7_3).f4) = some r) ∧ Aside0 (kq ≤ k3) ∧ Aside0 (Kd.R Kd.string 9 w' w.heap.size (fun _ => True) u5 x5_3) ∧ Aside0 (w'.heap[gb218]? = some (.cells #[.string ((rd_T55 l0 x7_3).f0), (.slice A217_1 ((rd_T55 l0 x7_3).f1).length c217_1), (.slice A217_2 ((rd_T55 l0 x7_3).f2).length c217_2), .string ((rd_T55 l0 x7_3).f3), .bool ((rd_T55 l0 x7_3).f4)] 55 (0, 0))) ∧ Aside0 (Below w.heap.size w w'))
                      case atStart => exact ⟨(t219), (0), (by first | rfl | (simp; done) | (simp [*]; done)), (by first | rfl | (simp; done) | (simp [*]; done)), H', ⟨Nat.le_refl _⟩, ⟨by (with_reducible repeat (first | apply Kd.R_alloc | apply Kd.R_drewN | apply Kd.R_drew)); exact Kd.R_mono (Kd.R_far (p := ⟨gb218, 4, none⟩) (Kd.R_far (p := ⟨gb218, 3, none⟩) (Kd.R_far (p := ⟨gb218, 2, none⟩) (Kd.R_far (p := ⟨gb218, 1, none⟩) (Kd.R_far (p := ⟨gb218, 0, none⟩) (Kd.R_types HO_5.out BK218.out (by decide)) (fun _ hk => hk.2) (.string ((rd_T55 l0 x7_3).f0))) (fun _ hk => hk.2) (.slice A217_1 ((rd_T55 l0 x7_3).f1).length c217_1)) (fun _ hk => hk.2) (.slice A217_2 ((rd_T55 l0 x7_3).f2).length c217_2)) (fun _ hk => hk.2) (.string ((rd_T55 l0 x7_3).f3))) (fun _ hk => hk.2) (.bool ((rd_T55 l0 x7_3).f4))) (fun _ hk => trivial)⟩, ⟨by (with_reducible repeat (first | refine blk_drewN ?_ _ | refine blk_drew ?_ | refine blk_alloc ?_ _)); refine blk_put (cs := #[.string ((rd_T55 l0 x7_3).f0), .slice A217_1 ((rd_T55 l0 x7_3).f1).length c217_1, .slice A217_2 ((rd_T55 l0 x7_3).f2).length c217_2, .string ((rd_T55 l0 x7_3).f3), .bool false]) ?_ 4 _ rfl; (with_reducible repeat (first | refine blk_drewN ?_ _ | refine blk_drew ?_ | refine blk_alloc ?_ _)); refine blk_put (cs := #[.string ((rd_T55 l0 x7_3).f0), .slice A217_1 ((rd_T55 l0 x7_3).f1).length c217_1, .slice A217_2 ((rd_T55 l0 x7_3).f2).length c217_2, .string (⟨#[]⟩ : ByteArray), .bool false]) ?_ 3 _ rfl; (with_reducible repeat (first | refine blk_drewN ?_ _ | refine blk_drew ?_ | refine blk_alloc ?_ _)); refine blk_put (cs := #[.string ((rd_T55 l0 x7_3).f0), .slice A217_1 ((rd_T55 l0 x7_3).f1).length c217_1, .slice none 0 0, .string (⟨#[]⟩ : ByteArray), .bool false]) ?_ 2 _ rfl; (with_reducible repeat (first | refine blk_drewN ?_ _ | refine blk_drew ?_ | refine blk_alloc ?_ _)); refine blk_put (cs := #[.string ((rd_T55 l0 x7_3).f0), .slice none 0 0, .slice none 0 0, .string (⟨#[]⟩ : ByteArray), .bool false]) ?_ 1 _ rfl; (with_reducible repeat (first | refine blk_drewN ?_ _ | refine blk_drew ?_ | refine blk_alloc ?_ _)); refine blk_put (cs := #[.string (⟨#[]⟩ : ByteArray), .slice none 0 0, .slice none 0 0, .string (⟨#[]⟩ : ByteArray), .bool false]) ?_ 0 _ rfl; (with_reducible repeat (first | refine blk_drewN ?_ _ | refine blk_drew ?_ | refine blk_alloc ?_ _)); exact BK218.out⟩, ⟨by repeat (first | (with_reducible first | exact HB.out | apply below_alloc | apply pw_below_drewN | apply below_drew1 | refine below_set ?_ GE218.out) | exact HB.out)⟩⟩
                      case round =>
                        clear H'
                        try clear c1
                        try clear c2
                        try clear p2
                        try clear q2
                        try clear hx2
                        try clear c6
                        try clear c7
                        try clear c10
                        try clear c11
                        try clear c11b0
                        try clear c12
                        try clear c12b0
                        try clear c13
                        try clear c13b0
                        try clear hcz16_0
                        try clear hcz16_1
                        try clear hcz16_2
                        try clear hcz16_3
                        try clear hcz16_4
                        try clear hfz16_0
                        try clear hfz16_1
                        try clear hfz16_2
                        try clear hfz16_3
                        try clear hfz16_4
                        try clear hx217_0
                        try clear hx217_1
                        try clear hx217_2
                        try clear hx217_3
                        try clear hx217_4
                        try clear p2
                        try clear p217
                        try clear q217
                        obtain ⟨x9_4, x10_4, rfl, rfl, HA, HK4, HO_5, BK218, HB⟩ := hrel
                        cases gk with
                        | zero => exact absurd HA.out (by simp [spec_Failing.l2])
                        | succ k4 =>
                          have H := HA.out
                          clear HA
                          simp only [spec_Failing.l2] at H
                          by_cases c17 : x10_4 < (((rd_T55 l0 x7_3).f2).length : Int)
                          · rw [if_pos c17] at H
                            have c17b0 : decide (x10_4 < (((rd_T55 l0 x7_3).f2).length : Int)) = true := decide_eq_true c17
                            clear c17
                            by_cases c18 : x9_4 = true
                            · subst c18
                              have H1 : (spec_Failing.l2 k4 l0 l1 x5_3 x6_2 x7_3 true (wrap64 (x10_4 + 1)) ((rd_T55 l0 x7_3).f0) ((rd_T55 l0 x7_3).f1) ((rd_T55 l0 x7_3).f2) ((rd_T55 l0 x7_3).f3) ((rd_T55 l0 x7_3).f4)) = some r := by rw [if_pos rfl] at H; exact H
                              clear H
                              have H := H1
                              clear H1
                              have H' := Aside0.mk H
                              clear H
                              have hcz19_0 : wr.cell? ⟨gb218, 0, none⟩ = some (.string ((rd_T55 l0 x7_3).f0)) := (blk_cell BK218.out 0).trans rfl
                              have hcz19_1 : wr.cell? ⟨gb218, 1, none⟩ = some (.slice A217_1 ((rd_T55 l0 x7_3).f1).length c217_1) := (blk_cell BK218.out 1).trans rfl
                              have hcz19_2 : wr.cell? ⟨gb218, 2, none⟩ = some (.slice A217_2 ((rd_T55 l0 x7_3).f2).length c217_2) := (blk_cell BK218.out 2).trans rfl
                              have hcz19_3 : wr.cell? ⟨gb218, 3, none⟩ = some (.string ((rd_T55 l0 x7_3).f3)) := (blk_cell BK218.out 3).trans rfl
                              have hcz19_4 : wr.cell? ⟨gb218, 4, none⟩ = some (.bool ((rd_T55 l0 x7_3).f4)) := (blk_cell BK218.out 4).trans rfl
                              have hfz19_0 := blk_frozen BK218.out 0
                              have hfz19_1 := blk_frozen BK218.out 1
                              have hfz19_2 := blk_frozen BK218.out 2
                              have hfz19_3 := blk_frozen BK218.out 3
                              have hfz19_4 := blk_frozen BK218.out 4
                              go_wp2
                              go_roundg k4
                              case measure => have := HJ2.out; have := HK2.out; have := HK3.out; have := HK4.out; omega
                              case rel => exact ⟨(true), (wrap64 (x10_4 + 1)), (by first | rfl | (simp; done) | (simp [*]; done)), (by first | rfl | (simp; done) | (simp [*]; done)), H', ⟨by have := HJ2.out; have := HK2.out; have := HK3.out; have := HK4.out; omega⟩, ⟨by (with_reducible repeat (first | apply Kd.R_alloc | apply Kd.R_drewN | apply Kd.R_drew)); exact HO_5.out⟩, ⟨by (with_reducible repeat (first | refine blk_drewN ?_ _ | refine blk_drew ?_ | refine blk_alloc ?_ _)); exact BK218.out⟩, ⟨by repeat (first | (with_reducible first | exact HB.out | apply below_alloc | apply pw_below_drewN | apply below_drew1 | refine below_set ?_ GE218.out) | exact HB.out)⟩⟩
                            · replace c18 := Bool.eq_false_iff.mpr c18
                              subst c18
                              have H1 : (if 0 ≤ x10_4 then ((spec_l3Has.f k4 x5_3 (rdOf ByteArray.empty ((rd_T55 l0 x7_3).f2) x10_4)).bind fun t221 => (if t221 = true then (spec_Failing.l2 k4 l0 l1 x5_3 x6_2 x7_3 true (wrap64 (x10_4 + 1)) ((rd_T55 l0 x7_3).f0) ((rd_T55 l0 x7_3).f1) ((rd_T55 l0 x7_3).f2) ((rd_T55 l0 x7_3).f3) ((rd_T55 l0 x7_3).f4)) else ((spec_l18Find.f k4 l0 (rdOf ByteArray.empty ((rd_T55 l0 x7_3).f2) x10_4)).bind fun t223 => (spec_Failing.l2 k4 l0 l1 x5_3 x6_2 x7_3 (decide (t223 < 0)) (wrap64 (x10_4 + 1)) ((rd_T55 l0 x7_3).f0) ((rd_T55 l0 x7_3).f1) ((rd_T55 l0 x7_3).f2) ((rd_T55 l0 x7_3).f3) ((rd_T55 l0 x7_3).f4))))) else (none)) = some r := by rw [if_neg (show ¬ (false = true) by decide)] at H; exact H
                              clear H
                              have H := H1
                              clear H1
                              by_cases c20 : 0 ≤ x10_4
                              · rw [if_pos c20] at H
                                have c20b0 : decide (0 ≤ x10_4) = true := decide_eq_true c20
                                clear c20
                                replace H := Option.bind_eq_some_iff.mp H
                                obtain ⟨t221, A210, H⟩ := H
                                replace H : (if t221 = true then (spec_Failing.l2 k4 l0 l1 x5_3 x6_2 x7_3 true (wrap64 (x10_4 + 1)) ((rd_T55 l0 x7_3).f0) ((rd_T55 l0 x7_3).f1) ((rd_T55 l0 x7_3).f2) ((rd_T55 l0 x7_3).f3) ((rd_T55 l0 x7_3).f4)) else ((spec_l18Find.f k4 l0 (rdOf ByteArray.empty ((rd_T55 l0 x7_3).f2) x10_4)).bind fun t223 => (spec_Failing.l2 k4 l0 l1 x5_3 x6_2 x7_3 (decide (t223 < 0)) (wrap64 (x10_4 + 1)) ((rd_T55 l0 x7_3).f0) ((rd_T55 l0 x7_3).f1) ((rd_T55 l0 x7_3).f2) ((rd_T55 l0 x7_3).f3) ((rd_T55 l0 x7_3).f4)))) = some r := H
                                have A21 := Aside0.mk A210
                                clear A210
                                by_cases c22 : t221 = true
                                · subst c22
                                  have H1 : (spec_Failing.l2 k4 l0 l1 x5_3 x6_2 x7_3 true (wrap64 (x10_4 + 1)) ((rd_T55 l0 x7_3).f0) ((rd_T55 l0 x7_3).f1) ((rd_T55 l0 x7_3).f2) ((rd_T55 l0 x7_3).f3) ((rd_T55 l0 x7_3).f4)) = some r := by rw [if_pos rfl] at H; exact H
                                  clear H
                                  have H := H1
                                  clear H1
                                  have H' := Aside0.mk H
                                  clear H
                                  have hcz23_0 : wr.cell? ⟨gb218, 0, none⟩ = some (.string ((rd_T55 l0 x7_3).f0)) := (blk_cell BK218.out 0).trans rfl
                                  have hcz23_1 : wr.cell? ⟨gb218, 1, none⟩ = some (.slice A217_1 ((rd_T55 l0 x7_3).f1).length c217_1) := (blk_cell BK218.out 1).trans rfl
                                  have hcz23_2 : wr.cell? ⟨gb218, 2, none⟩ = some (.slice A217_2 ((rd_T55 l0 x7_3).f2).length c217_2) := (blk_cell BK218.out 2).trans rfl
                                  have hcz23_3 : wr.cell? ⟨gb218, 3, none⟩ = some (.string ((rd_T55 l0 x7_3).f3)) := (blk_cell BK218.out 3).trans rfl
                                  have hcz23_4 : wr.cell? ⟨gb218, 4, none⟩ = some (.bool ((rd_T55 l0 x7_3).f4)) := (blk_cell BK218.out 4).trans rfl
                                  have hfz23_0 := blk_frozen BK218.out 0
                                  have hfz23_1 := blk_frozen BK218.out 1
                                  have hfz23_2 := blk_frozen BK218.out 2
                                  have hfz23_3 := blk_frozen BK218.out 3
                                  have hfz23_4 := blk_frozen BK218.out 4
                                  have p220 : 0 ≤ (x10_4 : Int) := of_decide_eq_true (by first | (with_reducible assumption) | assumption)
                                  have q220 : x10_4 < (((rd_T55 l0 x7_3).f2).length : Int) := of_decide_eq_true (by first | (with_reducible assumption) | assumption)
                                  obtain ⟨ad220, e220, hx220_0⟩ := Kd.at_string HR217_2.out x10_4 p220 q220
                                  cases e220
                                  try (replace hx220_0 := (HB.out.cell (World.block_lt_of_cell? w _ hx220_0)).trans hx220_0)
                                  replace p220 := eq_true p220
                                  replace q220 := eq_true q220
                                  obtain ⟨Ao24, co24, eo24⟩ := Kd.R_slice HO_5.out
                                  subst eo24
                                  go_wp2_with (first | (go_at_call 60; (with_reducible refine (spec_l3Has.calls k4 _ _ x5_3 (rdOf ByteArray.empty ((rd_T55 l0 x7_3).f2) x10_4) true _ ?side1 ?side2 A21.out).mono ?_); (case side1 => repeat (first | exact (Kd.R_reads' HO_5.out).2.2 | (with_reducible refine Kd.C_alloc ?_ _) | (with_reducible refine Kd.C_drewN ?_ _) | (with_reducible refine Kd.C_drew ?_))); (case side2 => exact (Kd.R_reads' HO_5.out).2.1); rintro e w' ⟨rfl, ⟨nd, rfl⟩⟩))
                                  go_roundg k4
                                  case measure => have := HJ2.out; have := HK2.out; have := HK3.out; have := HK4.out; omega
                                  case rel => exact ⟨(true), (wrap64 (x10_4 + 1)), (by first | rfl | (simp; done) | (simp [*]; done)), (by first | rfl | (simp; done) | (simp [*]; done)), H', ⟨by have := HJ2.out; have := HK2.out; have := HK3.out; have := HK4.out; omega⟩, ⟨by (with_reducible repeat (first | apply Kd.R_alloc | apply Kd.R_drewN | apply Kd.R_drew)); exact HO_5.out⟩, ⟨by (with_reducible repeat (first | refine blk_drewN ?_ _ | refine blk_drew ?_ | refine blk_alloc ?_ _)); exact BK218.out⟩, ⟨by repeat (first | (with_reducible first | exact HB.out | apply below_alloc | apply pw_below_drewN | apply below_drew1 | refine below_set ?_ GE218.out) | exact HB.out)⟩⟩
                                · replace c22 := Bool.eq_false_iff.mpr c22
                                  subst c22
                                  have H1 : ((spec_l18Find.f k4 l0 (rdOf ByteArray.empty ((rd_T55 l0 x7_3).f2) x10_4)).bind fun t223 => (spec_Failing.l2 k4 l0 l1 x5_3 x6_2 x7_3 (decide (t223 < 0)) (wrap64 (x10_4 + 1)) ((rd_T55 l0 x7_3).f0) ((rd_T55 l0 x7_3).f1) ((rd_T55 l0 x7_3).f2) ((rd_T55 l0 x7_3).f3) ((rd_T55 l0 x7_3).f4))) = some r := by rw [if_neg (show ¬ (false = true) by decide)] at H; exact H
                                  clear H
                                  have H := H1
                                  clear H1
                                  replace H := Option.bind_eq_some_iff.mp H
                                  obtain ⟨t223, A250, H⟩ := H
                                  replace H : (spec_Failing.l2 k4 l0 l1 x5_3 x6_2 x7_3 (decide (t223 < 0)) (wrap64 (x10_4 + 1)) ((rd_T55 l0 x7_3).f0) ((rd_T55 l0 x7_3).f1) ((rd_T55 l0 x7_3).f2) ((rd_T55 l0 x7_3).f3) ((rd_T55 l0 x7_3).f4)) = some r := H
                                  have A25 := Aside0.mk A250
                                  clear A250
                                  have H' := Aside0.mk H
                                  clear H
                                  have hcz26_0 : wr.cell? ⟨gb218, 0, none⟩ = some (.string ((rd_T55 l0 x7_3).f0)) := (blk_cell BK218.out 0).trans rfl
                                  have hcz26_1 : wr.cell? ⟨gb218, 1, none⟩ = some (.slice A217_1 ((rd_T55 l0 x7_3).f1).length c217_1) := (blk_cell BK218.out 1).trans rfl
                                  have hcz26_2 : wr.cell? ⟨gb218, 2, none⟩ = some (.slice A217_2 ((rd_T55 l0 x7_3).f2).length c217_2) := (blk_cell BK218.out 2).trans rfl
                                  have hcz26_3 : wr.cell? ⟨gb218, 3, none⟩ = some (.string ((rd_T55 l0 x7_3).f3)) := (blk_cell BK218.out 3).trans rfl
                                  have hcz26_4 : wr.cell? ⟨gb218, 4, none⟩ = some (.bool ((rd_T55 l0 x7_3).f4)) := (blk_cell BK218.out 4).trans rfl
                                  have hfz26_0 := blk_frozen BK218.out 0
                                  have hfz26_1 := blk_frozen BK218.out 1
                                  have hfz26_2 := blk_frozen BK218.out 2
                                  have hfz26_3 := blk_frozen BK218.out 3
                                  have hfz26_4 := blk_frozen BK218.out 4
                                  have p220 : 0 ≤ (x10_4 : Int) := of_decide_eq_true (by first | (with_reducible assumption) | assumption)
                                  have q220 : x10_4 < (((rd_T55 l0 x7_3).f2).length : Int) := of_decide_eq_true (by first | (with_reducible assumption) | assumption)
                                  obtain ⟨ad220, e220, hx220_0⟩ := Kd.at_string HR217_2.out x10_4 p220 q220
                                  cases e220
                                  try (replace hx220_0 := (HB.out.cell (World.block_lt_of_cell? w _ hx220_0)).trans hx220_0)
                                  replace p220 := eq_true p220
                                  replace q220 := eq_true q220
                                  obtain ⟨Ao27, co27, eo27⟩ := Kd.R_slice HO_5.out
                                  subst eo27
                                  go_wp2_with (first | (go_at_call 60; (with_reducible refine (spec_l3Has.calls k4 _ _ x5_3 (rdOf ByteArray.empty ((rd_T55 l0 x7_3).f2) x10_4) false _ ?side1 ?side2 A21.out).mono ?_); (case side1 => repeat (first | exact (Kd.R_reads' HO_5.out).2.2 | (with_reducible refine Kd.C_alloc ?_ _) | (with_reducible refine Kd.C_drewN ?_ _) | (with_reducible refine Kd.C_drew ?_))); (case side2 => exact (Kd.R_reads' HO_5.out).2.1); rintro e w' ⟨rfl, ⟨nd, rfl⟩⟩; have p222 : 0 ≤ (x10_4 : Int) := of_decide_eq_true (by first | (with_reducible assumption) | assumption); have q222 : x10_4 < (((rd_T55 l0 x7_3).f2).length : Int) := of_decide_eq_true (by first | (with_reducible assumption) | assumption); obtain ⟨ad222, e222, hx222_0⟩ := Kd.at_string HR217_2.out x10_4 p222 q222; obtain rfl : ad220 = ad222 := (by injection e222); replace hx222_0 := (HB.out.cell (World.block_lt_of_cell? w _ hx222_0)).trans hx222_0; replace p222 := eq_true p222; replace q222 := eq_true q222) | (go_at_call 61; (with_reducible refine (spec_l18Find.calls k4 _ _ l0 (rdOf ByteArray.empty ((rd_T55 l0 x7_3).f2) x10_4) t223 _ ?side1 ?side2 A25.out).mono ?_); (case side1 => repeat (first | exact (Kd.C_below HR0.out (by repeat (first | (with_reducible first | exact HB.out | apply below_alloc | apply pw_below_drewN | apply below_drew1 | refine below_set ?_ GE218.out) | exact HB.out))) | (with_reducible refine Kd.C_alloc ?_ _) | (with_reducible refine Kd.C_drewN ?_ _) | (with_reducible refine Kd.C_drew ?_))); (case side2 => exact HC0.out); rintro e w' ⟨rfl, ⟨nd, rfl⟩⟩))
                                  go_roundg k4
                                  case measure => have := HJ2.out; have := HK2.out; have := HK3.out; have := HK4.out; omega
                                  case rel => exact ⟨(decide (t223 < 0)), (wrap64 (x10_4 + 1)), (by first | rfl | (simp; done) | (simp [*]; done)), (by first | rfl | (simp; done) | (simp [*]; done)), H', ⟨by have := HJ2.out; have := HK2.out; have := HK3.out; have := HK4.out; omega⟩, ⟨by (with_reducible repeat (first | apply Kd.R_alloc | apply Kd.R_drewN | apply Kd.R_drew)); exact HO_5.out⟩, ⟨by (with_reducible repeat (first | refine blk_drewN ?_ _ | refine blk_drew ?_ | refine blk_alloc ?_ _)); exact BK218.out⟩, ⟨by repeat (first | (with_reducible first | exact HB.out | apply below_alloc | apply pw_below_drewN | apply below_drew1 | refine below_set ?_ GE218.out) | exact HB.out)⟩⟩
                              · rw [if_neg c20] at H
                                exact absurd H (by simp)
                          · rw [if_neg c17] at H
                            have c17b0 : decide (x10_4 < (((rd_T55 l0 x7_3).f2).length : Int)) = false := decide_eq_false c17
                            clear c17
                            by_cases c28 : x9_4 = true
                            · subst c28
                              have H1 : ((spec_l3Add.f k4 x5_3 ((rd_T55 l0 x7_3).f0)).bind fun t224 => (spec_Failing.l1 k4 l0 l1 t224 x6_2 (wrap64 (x7_3 + 1)))) = some r := by rw [if_pos rfl] at H; exact H
                              clear H
                              have H := H1
                              clear H1
                              replace H := Option.bind_eq_some_iff.mp H
                              obtain ⟨t224, A290, H⟩ := H
                              replace H : (spec_Failing.l1 k4 l0 l1 t224 x6_2 (wrap64 (x7_3 + 1))) = some r := H
                              have A29 := Aside0.mk A290
                              clear A290
                              have H' := Aside0.mk H
                              clear H
                              have hcz30_0 : wr.cell? ⟨gb218, 0, none⟩ = some (.string ((rd_T55 l0 x7_3).f0)) := (blk_cell BK218.out 0).trans rfl
                              have hcz30_1 : wr.cell? ⟨gb218, 1, none⟩ = some (.slice A217_1 ((rd_T55 l0 x7_3).f1).length c217_1) := (blk_cell BK218.out 1).trans rfl
                              have hcz30_2 : wr.cell? ⟨gb218, 2, none⟩ = some (.slice A217_2 ((rd_T55 l0 x7_3).f2).length c217_2) := (blk_cell BK218.out 2).trans rfl
                              have hcz30_3 : wr.cell? ⟨gb218, 3, none⟩ = some (.string ((rd_T55 l0 x7_3).f3)) := (blk_cell BK218.out 3).trans rfl
                              have hcz30_4 : wr.cell? ⟨gb218, 4, none⟩ = some (.bool ((rd_T55 l0 x7_3).f4)) := (blk_cell BK218.out 4).trans rfl
                              have hfz30_0 := blk_frozen BK218.out 0
                              have hfz30_1 := blk_frozen BK218.out 1
                              have hfz30_2 := blk_frozen BK218.out 2
                              have hfz30_3 := blk_frozen BK218.out 3
                              have hfz30_4 := blk_frozen BK218.out 4
                              obtain ⟨Ao31, co31, eo31⟩ := Kd.R_slice HO_5.out
                              subst eo31
                              go_wp2_with (first | ((with_reducible refine gate_callee (f := 55) rfl ?_); refine goesL_ (some 72) rfl rfl Try.func55 (by kernel_rfl) rfl #[.slice Ao31 x5_3.length co31, .string ((rd_T55 l0 x7_3).f0)] rfl (by (try simp only [List.map_toArray, List.map_cons, List.map_nil]); first | done | rfl | (simp only [List.length_drop, List.length_take]; rfl)) ?_; (with_reducible refine (spec_l3Add.calls k4 (fun k_ => some k_ = (.slice Ao31 x5_3.length co31 : Value).ownBlock) (.slice Ao31 x5_3.length co31) x5_3 ((rd_T55 l0 x7_3).f0) t224 w _ ?side1 ?side2 A29.out).mono ?_); (case side1 => repeat (first | (with_reducible first | exact HB.out | apply below_alloc | apply pw_below_drewN | apply below_drew1 | refine below_set ?_ GE218.out) | exact HB.out)); (case side2 => exact Kd.R_tight rfl HO_5.out); rintro e w32 ⟨v225, rfl, ho0, hb, hkp⟩; refine ⟨_, rfl, ?_⟩; have n0_ := Aside0.mk (blk_kept (by (with_reducible repeat (first | refine blk_drewN ?_ _ | refine blk_drew ?_ | refine blk_alloc ?_ _)); exact BK218.out) hkp (fun hs_ => (fun e_ => (Kd.R_ne HO_5.out BK218.out (by decide)) e_) hs_)); have n1_ := Aside0.mk (Kd.R_mono (ok' := fun k_ => True) ho0 (fun k_ hk_ => trivial)); have n2_ := Aside0.mk (hb); clear BK218; clear HB; clear HO_5; have BK218 := n0_; have HO226 := n1_; have HB := n2_; clear n0_ n1_ n2_; (try clear hb); (try clear hkp); (try clear ho0)))
                              go_roundg k4
                              case measure => have := HJ2.out; have := HK2.out; have := HK3.out; have := HK4.out; omega
                              case rel => exact ⟨(t224), (wrap64 (x7_3 + 1)), (by first | rfl | (simp; done) | (simp [*]; done)), H', ⟨by have := HJ2.out; have := HK2.out; have := HK3.out; have := HK4.out; omega⟩, ⟨by (with_reducible repeat (first | apply Kd.R_alloc | apply Kd.R_drewN | apply Kd.R_drew)); exact HO226.out⟩, ⟨by repeat (first | (with_reducible first | exact HB.out | apply below_alloc | apply pw_below_drewN | apply below_drew1 | refine below_set ?_ GE218.out) | exact HB.out)⟩⟩
                            · replace c28 := Bool.eq_false_iff.mpr c28
                              subst c28
                              have H1 : (spec_Failing.l1 k4 l0 l1 x5_3 x6_2 (wrap64 (x7_3 + 1))) = some r := by rw [if_neg (show ¬ (false = true) by decide)] at H; exact H
                              clear H
                              have H := H1
                              clear H1
                              have H' := Aside0.mk H
                              clear H
                              have hcz33_0 : wr.cell? ⟨gb218, 0, none⟩ = some (.string ((rd_T55 l0 x7_3).f0)) := (blk_cell BK218.out 0).trans rfl
                              have hcz33_1 : wr.cell? ⟨gb218, 1, none⟩ = some (.slice A217_1 ((rd_T55 l0 x7_3).f1).length c217_1) := (blk_cell BK218.out 1).trans rfl
                              have hcz33_2 : wr.cell? ⟨gb218, 2, none⟩ = some (.slice A217_2 ((rd_T55 l0 x7_3).f2).length c217_2) := (blk_cell BK218.out 2).trans rfl
                              have hcz33_3 : wr.cell? ⟨gb218, 3, none⟩ = some (.string ((rd_T55 l0 x7_3).f3)) := (blk_cell BK218.out 3).trans rfl
                              have hcz33_4 : wr.cell? ⟨gb218, 4, none⟩ = some (.bool ((rd_T55 l0 x7_3).f4)) := (blk_cell BK218.out 4).trans rfl
                              have hfz33_0 := blk_frozen BK218.out 0
                              have hfz33_1 := blk_frozen BK218.out 1
                              have hfz33_2 := blk_frozen BK218.out 2
                              have hfz33_3 := blk_frozen BK218.out 3
                              have hfz33_4 := blk_frozen BK218.out 4
                              go_wp2
                              go_roundg k4
                              case measure => have := HJ2.out; have := HK2.out; have := HK3.out; have := HK4.out; omega
                              case rel => exact ⟨(x5_3), (wrap64 (x7_3 + 1)), (by first | rfl | (simp; done) | (simp [*]; done)), H', ⟨by have := HJ2.out; have := HK2.out; have := HK3.out; have := HK4.out; omega⟩, ⟨by (with_reducible repeat (first | apply Kd.R_alloc | apply Kd.R_drewN | apply Kd.R_drew)); exact HO_5.out⟩, ⟨by repeat (first | (with_reducible first | exact HB.out | apply below_alloc | apply pw_below_drewN | apply below_drew1 | refine below_set ?_ GE218.out) | exact HB.out)⟩⟩
                    · rw [if_neg c13] at H
                      exact absurd H (by simp)
                  · rw [if_neg c12] at H
                    have c12b0 : decide (x7_3 < (l0.length : Int)) = false := decide_eq_false c12
                    clear c12
                    have H' := Aside0.mk H
                    clear H
                    go_wp2
                    go_roundg k3
                    case measure => have := HJ2.out; have := HK2.out; have := HK3.out; omega
                    case rel => exact ⟨(x5_3), (wrap64 (x6_2 + 1)), (by first | rfl | (simp; done) | (simp [*]; done)), H', ⟨by have := HJ2.out; have := HK2.out; have := HK3.out; omega⟩, ⟨by (with_reducible repeat (first | apply Kd.R_alloc | apply Kd.R_drewN | apply Kd.R_drew)); exact HO_5.out⟩, ⟨by repeat (first | (with_reducible first | exact HB.out | apply below_alloc | apply pw_below_drewN | apply below_drew1) | exact HB.out)⟩⟩
            · rw [if_neg c11] at H
              have c11b0 : decide (x6_2 ≤ (l0.length : Int)) = false := decide_eq_false c11
              clear c11
              obtain rfl := Option.some.inj H
              go_wp2
              go_ret
              exact ⟨_, by first | rfl | (simp [errW_none, errW_some] <;> rfl) | (simp [*, errW_none, errW_some] <;> rfl), by (with_reducible repeat (first | apply Kd.R_alloc | apply Kd.R_drewN | apply Kd.R_drew)); exact HO_5.out, by repeat (first | (with_reducible first | exact HB.out | apply below_alloc | apply pw_below_drewN | apply below_drew1) | exact HB.out)⟩

/-! ### impl_letter: function 77 -/
def impl_letter.f (a0 : Int) : Option (Bool) := if a0 ≥ 97 then (if a0 ≤ 122 then (some true) else (if a0 ≥ 65 then (some (decide (a0 ≤ 90))) else (some false))) else (if a0 ≥ 65 then (some (decide (a0 ≤ 90))) else (some false))
set_option maxHeartbeats 8000000 in
set_option maxRecDepth 100000 in
theorem impl_letter.calls (a0 : Int) (r : Bool) (w : World) (h : impl_letter.f a0 = some r) :
    Calls Try.prog 77 #[.int .u8 a0] w fun e w' => e = .returned (.bool r) ∧ Drawn0 w w' := by
  have H : (if a0 ≥ 97 then (if a0 ≤ 122 then (some true) else (if a0 ≥ 65 then (some (decide (a0 ≤ 90))) else (some false))) else (if a0 ≥ 65 then (some (decide (a0 ≤ 90))) else (some false))) = some r := h
  clear h
  by_cases c2 : a0 ≥ 97
  · rw [if_pos c2] at H
    have c2b0 : decide (97 ≤ a0) = true := decide_eq_true c2
    clear c2
    by_cases c3 : a0 ≤ 122
    · rw [if_pos c3] at H
      have c3b0 : decide (a0 ≤ 122) = true := decide_eq_true c3
      clear c3
      obtain rfl := Option.some.inj H
      go_enter Try.func77, Try.ntmps77
      go_wp2
      go_ret
      exact ⟨by first | rfl | (simp; done) | (simp [*]; done), by repeat (first | exact Drawn0.refl _ | apply Drawn0.step)⟩
    · rw [if_neg c3] at H
      have c3b0 : decide (a0 ≤ 122) = false := decide_eq_false c3
      clear c3
      by_cases c4 : a0 ≥ 65
      · rw [if_pos c4] at H
        have c4b0 : decide (65 ≤ a0) = true := decide_eq_true c4
        clear c4
        obtain rfl := Option.some.inj H
        go_enter Try.func77, Try.ntmps77
        go_wp2
        go_ret
        exact ⟨by first | rfl | (simp; done) | (simp [*]; done), by repeat (first | exact Drawn0.refl _ | apply Drawn0.step)⟩
      · rw [if_neg c4] at H
        have c4b0 : decide (65 ≤ a0) = false := decide_eq_false c4
        clear c4
        obtain rfl := Option.some.inj H
        go_enter Try.func77, Try.ntmps77
        go_wp2
        go_ret
        exact ⟨by first | rfl | (simp; done) | (simp [*]; done), by repeat (first | exact Drawn0.refl _ | apply Drawn0.step)⟩
  · rw [if_neg c2] at H
    have c2b0 : decide (97 ≤ a0) = false := decide_eq_false c2
    clear c2
    by_cases c5 : a0 ≥ 65
    · rw [if_pos c5] at H
      have c5b0 : decide (65 ≤ a0) = true := decide_eq_true c5
      clear c5
      obtain rfl := Option.some.inj H
      go_enter Try.func77, Try.ntmps77
      go_wp2
      go_ret
      exact ⟨by first | rfl | (simp; done) | (simp [*]; done), by repeat (first | exact Drawn0.refl _ | apply Drawn0.step)⟩
    · rw [if_neg c5] at H
      have c5b0 : decide (65 ≤ a0) = false := decide_eq_false c5
      clear c5
      obtain rfl := Option.some.inj H
      go_enter Try.func77, Try.ntmps77
      go_wp2
      go_ret
      exact ⟨by first | rfl | (simp; done) | (simp [*]; done), by repeat (first | exact Drawn0.refl _ | apply Drawn0.step)⟩

/-! ### impl_digit: function 78 -/
def impl_digit.f (a0 : Int) : Option (Bool) := if a0 ≥ 48 then (some (decide (a0 ≤ 57))) else (some false)
set_option maxHeartbeats 8000000 in
set_option maxRecDepth 100000 in
theorem impl_digit.calls (a0 : Int) (r : Bool) (w : World) (h : impl_digit.f a0 = some r) :
    Calls Try.prog 78 #[.int .u8 a0] w fun e w' => e = .returned (.bool r) ∧ Drawn0 w w' := by
  have H : (if a0 ≥ 48 then (some (decide (a0 ≤ 57))) else (some false)) = some r := h
  clear h
  by_cases c2 : a0 ≥ 48
  · rw [if_pos c2] at H
    have c2b0 : decide (48 ≤ a0) = true := decide_eq_true c2
    clear c2
    obtain rfl := Option.some.inj H
    go_enter Try.func78, Try.ntmps78
    go_wp2
    go_ret
    exact ⟨by first | rfl | (simp; done) | (simp [*]; done), by repeat (first | exact Drawn0.refl _ | apply Drawn0.step)⟩
  · rw [if_neg c2] at H
    have c2b0 : decide (48 ≤ a0) = false := decide_eq_false c2
    clear c2
    obtain rfl := Option.some.inj H
    go_enter Try.func78, Try.ntmps78
    go_wp2
    go_ret
    exact ⟨by first | rfl | (simp; done) | (simp [*]; done), by repeat (first | exact Drawn0.refl _ | apply Drawn0.step)⟩

/-! ### strings_ContainsRune: function 79 -/
set_option maxRecDepth 100000 in
set_option maxHeartbeats 2000000 in
theorem cr_stringslite_calls (s : ByteArray) (c : Int) (w : World) :
    Calls Try.prog 89 #[.string s, .int .u8 c] w fun e w' => e = .returned (.int .i64 (Lib.indexByte s.data.toList c.toNat.toUInt8)) ∧ w' = w := by
  go_enter Try.func89, Try.ntmps89
  go_wp2
  rw [run_callFunc_extern Try.func90 (by kernel_rfl) (by kernel_rfl) (by kernel_rfl) (e := Extern.BytealgIndexByte.indexByte) (by kernel_rfl), Lib.run_indexByteString]
  simp only [Result.andThen]
  rw [Oper.upon_value]
  go_wp2
  go_ret
  exact ⟨rfl, rfl⟩
set_option maxRecDepth 100000 in
set_option maxHeartbeats 2000000 in
theorem cr_IndexByte_calls (s : ByteArray) (c : Int) (w : World) :
    Calls Try.prog 85 #[.string s, .int .u8 c] w fun e w' => e = .returned (.int .i64 (Lib.indexByte s.data.toList c.toNat.toUInt8)) ∧ w' = w := by
  go_enter Try.func85, Try.ntmps85
  go_wp2_with (go_at_call 89; refine (cr_stringslite_calls _ _ _).mono ?_; rintro e w' ⟨rfl, rfl⟩)
  go_ret
  exact ⟨rfl, rfl⟩
set_option maxRecDepth 100000 in
set_option maxHeartbeats 2000000 in
theorem cr_ascii (s : ByteArray) (c : Int) (w : World) (h0 : 0 ≤ c) (h1 : c < 128) :
    Calls Try.prog 84 #[.string s, .int .i32 c] w fun e w' => e = .returned (.int .i64 (Lib.indexByte s.data.toList c.toNat.toUInt8)) ∧ w' = w := by
  have hw : IntKind.u8.wrap c = c := by rw [IntKind.wrap_u8]; omega
  go_enter Try.func84, Try.ntmps84
  go_wp2_with (go_at_call 85; refine (cr_IndexByte_calls _ _ _).mono ?_; rintro e w' ⟨rfl, rfl⟩)
  go_ret
  exact ⟨rfl, rfl⟩
set_option maxRecDepth 100000 in
set_option maxHeartbeats 2000000 in
theorem cr_high (c : Int) (w : World) (h0 : 128 ≤ c) (h1 : c < 256) :
    Calls Try.prog 84 #[.string ⟨#[45, 95, 46, 43]⟩, .int .i32 c] w fun e w' => e = .returned (.int .i64 (-1)) ∧ ∃ n, w' = w.drewN n := by
  obtain ⟨rs, hrs⟩ : ∃ rs, rs = Utf8.encode c := ⟨_, rfl⟩
  have hv : Utf8.valid c = true := by rw [validRune_eq]; simp [validRune]; omega
  obtain ⟨g1, g2, g3⟩ := encode_facts c hv h0
  rw [← hrs] at g1 g2 g3
  have hz : rs.size = 2 := by
    rw [hrs]; unfold Utf8.encode
    have hc : ¬ c.toNat < 128 := by omega
    have hc2 : c.toNat < 2048 := by omega
    simp only [hv, if_true, hc, if_false, hc2]
    rfl
  have hlt : 1 < rs.size := by omega
  have g4 : 128 ≤ (rs[1]'hlt).toNat := by have := g3 (by omega); simpa [hz] using this
  go_enter Try.func84, Try.ntmps84
  have q1 : (c == 65533) = false := by simp; omega
  have q2 : c < 55296 := by omega
  have q3 : 0 ≤ c := by omega
  have q4 : ¬ c < 128 := by omega
  clear hv g1 g2 g3
  have HE : Utf8.encode c = rs := hrs.symm
  clear hrs
  go_wp2_with go_in
  go_step3
  go_wp2_with fail
  refine wp_loop_rounds 1 ?_
  rw [rounds_succ]
  go_wp2_with fail
  go_step3
  go_wp2_with fail
  have q6 : ((((⟨#[45, 95, 46, 43]⟩ : ByteArray)[1]'(by decide)).toNat : Int) != ((rs[1]'hlt).toNat : Int)) = true := by
    have : ((⟨#[45, 95, 46, 43]⟩ : ByteArray)[1]'(by decide)).toNat = 95 := rfl
    rw [this]; simp; omega
  go_quiet (fail)
  go_wp2_with fail
  have q7 : IntKind.i64.wrap 2 = 2 := by rw [IntKind.wrap_i64]; rfl
  go_quiet ((go_at_call 85; refine (cr_IndexByte_calls _ _ _).mono ?_; rintro e w' ⟨rfl, rfl⟩; exact ⟨rfl, _, rfl⟩))
  have q9 : Lib.indexByte [46, 43] (rs[1]'hlt) < 0 := by
    have e1 : ((46 : UInt8) == (rs[1]'hlt)) = false := by
      rw [beq_eq_false_iff_ne]; intro h; rw [← h] at g4; exact absurd g4 (by decide)
    have e2 : ((43 : UInt8) == (rs[1]'hlt)) = false := by
      rw [beq_eq_false_iff_ne]; intro h; rw [← h] at g4; exact absurd g4 (by decide)
    simp [Lib.indexByte, e1, e2]
  go_wp2_with fail
  rw [Exit.noGoto_ret]
  go_wp2_with fail
  rw [Exit.noGoto_ret]
  go_ret
  exact ⟨rfl, _, by first | rfl | exact World.drewN_drewN ..⟩
theorem cr_ix : ∀ c : Fin 128, decide (Lib.indexByte [45, 95, 46, 43] ((c.val : Int)).toNat.toUInt8 ≥ 0) = (c.val == 45 || c.val == 95 || c.val == 46 || c.val == 43) := by decide +kernel
/-- At the one text that the program asks, and at a byte. -/
def strings_ContainsRune.f (a0 : ByteArray) (a1 : Int) : Option (Bool) := if a0.toList = [45, 95, 46, 43] then if 0 ≤ a1 ∧ a1 < 256 then some (a1 == 45 || a1 == 95 || a1 == 46 || a1 == 43) else none else none
set_option maxRecDepth 100000 in
set_option maxHeartbeats 2000000 in
theorem strings_ContainsRune.calls (a0 : ByteArray) (a1 : Int) (r : Bool) (w : World) (h : strings_ContainsRune.f a0 a1 = some r) :
    Calls Try.prog 79 #[.string a0, .int .i32 a1] w fun e w' => e = .returned (.bool r) ∧ Drawn0 w w' := by
  unfold strings_ContainsRune.f at h
  by_cases h1 : a0.toList = [45, 95, 46, 43]
  · obtain rfl : a0 = ⟨#[45, 95, 46, 43]⟩ := by
      have : a0.data.toList = [45, 95, 46, 43] := by rw [← Lib.toList_data]; exact h1
      cases a0; simp at this; simp [← this]
    rw [if_pos h1] at h
    by_cases h2 : 0 ≤ a1 ∧ a1 < 256
    · rw [if_pos h2] at h
      obtain rfl := Option.some.inj h
      obtain ⟨h3, h4⟩ := h2
      clear h h1
      by_cases h5 : a1 < 128
      · have hr : decide (Lib.indexByte (⟨#[45, 95, 46, 43]⟩ : ByteArray).data.toList a1.toNat.toUInt8 ≥ 0) = (a1 == 45 || a1 == 95 || a1 == 46 || a1 == 43) := by
          have := cr_ix ⟨a1.toNat, by omega⟩
          simp only [Int.toNat_of_nonneg h3] at this
          rw [show (⟨#[45, 95, 46, 43]⟩ : ByteArray).data.toList = [45, 95, 46, 43] from rfl, this]
          obtain ⟨n, rfl⟩ := Int.eq_ofNat_of_zero_le h3
          simp only [Int.toNat_natCast]
          rw [Bool.eq_iff_iff]; simp; omega
        rw [← hr]
        generalize hq : Lib.indexByte (⟨#[45, 95, 46, 43]⟩ : ByteArray).data.toList a1.toNat.toUInt8 = q
        have hq := Aside0.mk hq
        clear hr
        go_enter Try.func79, Try.ntmps79
        go_wp2_with (go_at_call 84; refine (cr_ascii _ _ _ h3 h5).mono ?_; rintro e w' ⟨rfl, rfl⟩; rw [hq.out])
        go_ret
        exact ⟨rfl, Drawn0.refl _⟩
      · have hr : (a1 == 45 || a1 == 95 || a1 == 46 || a1 == 43) = false := by simp; omega
        rw [hr]
        have h6 : 128 ≤ a1 := by omega
        clear hr h5
        go_enter Try.func79, Try.ntmps79
        go_wp2_with (go_at_call 84; refine (cr_high _ _ h6 h4).mono ?_; rintro e w' ⟨rfl, n, rfl⟩)
        go_ret
        exact ⟨rfl, ⟨_, rfl⟩⟩
    · rw [if_neg h2] at h; exact absurd h (by simp)
  · rw [if_neg h1] at h; exact absurd h (by simp)

end Go.Proofs.Ytnahkojlamficaa.PFnExactFailing
