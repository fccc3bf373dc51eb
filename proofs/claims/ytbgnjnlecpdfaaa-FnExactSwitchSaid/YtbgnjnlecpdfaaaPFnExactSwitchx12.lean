-- Laid by a program of this session: a turned copy of the kit's print, with contracts by hand beside.
import Derived.Test.YtbgnjnlecpdfaaaPFnExactSwitchx0
import Derived.Test.YtbgnjnlecpdfaaaPFnExactSwitchx10
import Derived.Test.YtbgnjnlecpdfaaaPFnExactSwitchx11
namespace Go.Proofs.Ytbgnjnlecpdfaaa.PFnExactSwitch
open Go.RowKit Go.Proofs.YtbgnjnlecpdfaaaW.PrintWords Go.Proofs.YtbgnjnlecpdfaaaW.PrintLast Go.Proofs.YtbgnjnlecpdfaaaW.PrintMore
attribute [local go_sem] max2_int min2_int max_two min_two max_three min_three max_four min_four   -- for this text's walks alone
set_option linter.unusedVariables false
set_option linter.unusedSimpArgs false

/-! ### impl_Switch: function 23 -/
def insP (y : List S52) (i : Int) (n : ByteArray) : List S52 := y.take i.toNat ++ (⟨n, 0, []⟩ : S52) :: (y.drop i.toNat).dropLast
theorem insP_set (xs : List S52) (z : S52) (i : Int) (n : ByteArray) (hi : i.toNat ≤ xs.length) : insP (xs ++ [z]) i n = (xs.take i.toNat ++ z :: xs.drop i.toNat).set i.toNat ⟨n, 0, []⟩ := by
  unfold insP
  rw [List.take_append_of_le_length hi, List.drop_append_of_le_length hi, List.dropLast_concat, List.set_append_right _ _ (by rw [List.length_take]; omega), List.length_take, Nat.min_eq_left hi, Nat.sub_self, List.set_cons_zero]
theorem three_of {c : List Value} (h : c.length = 3) : ∃ u0 u1 u2 : Value, c = [u0, u1, u2] := by
  match c, h with
  | [a, b, c], _ => exact ⟨a, b, c, rfl⟩
mutual
def impl_Switch.j1 (p0 : List S52) : Nat → ByteArray → List (S52) → Int → Option ((List (S52)) × Bool)
  | 0, _, _, _ => none
  | k + 1, x2, x8, x9 => if 0 ≤ x9 then (if x9 < (x8.length : Int) then (if ((rd_T52 x8 x9).f1) = 0 then (impl_Switch.j2 p0 k x2 x8 x9 false) else ((impl_current.f k ((rd_T52 x8 x9).f0) ((rd_T52 x8 x9).f1) ((rd_T52 x8 x9).f2)).bind fun t351 => (impl_Switch.j2 p0 k x2 x8 x9 (t351.toList == x2.toList)))) else (none)) else (none)
def impl_Switch.j2 (p0 : List S52) : Nat → ByteArray → List (S52) → Int → Bool → Option ((List (S52)) × Bool)
  | 0, _, _, _, _ => none
  | k + 1, x2, x8, x9, x69 => if x69 = true then (some (x8, true)) else (if 0 ≤ x9 then (if x9 < (x8.length : Int) then (if (((rd_T52 x8 x9).f2).length : Int) > 0 then (if 0 ≤ (wrap64 ((((rd_T52 x8 x9).f2).length : Int) - 1)) then (if (wrap64 ((((rd_T52 x8 x9).f2).length : Int) - 1)) < (((rd_T52 x8 x9).f2).length : Int) then (impl_Switch.j3 p0 k x2 x8 x9 (wrap64 (((rd_T56 ((rd_T52 x8 x9).f2) (wrap64 ((((rd_T52 x8 x9).f2).length : Int) - 1))).f0) + 1))) else (none)) else (none)) else (impl_Switch.j3 p0 k x2 x8 x9 1)) else (none)) else (none))
def impl_Switch.j3 (p0 : List S52) : Nat → ByteArray → List (S52) → Int → Int → Option ((List (S52)) × Bool)
  | 0, _, _, _, _ => none
  | k + 1, x2, x8, x9, x11 => if 0 ≤ x9 then (if x9 < (x8.length : Int) then (if ((rd_T52 x8 x9).f2).length < 5864062014805 then ((some (x8.set (x9 : Int).toNat (⟨(rd_T52 x8 x9).f0, (rd_T52 x8 x9).f1, (((rd_T52 x8 x9).f2) ++ [(⟨x11, x2⟩ : S56)])⟩ : S52) : List (S52))).bind fun y360 => ((some (y360.set (x9 : Int).toNat (⟨(rd_T52 y360 x9).f0, x11, (rd_T52 y360 x9).f2⟩ : S52) : List (S52))).bind fun y361 => ((impl_ProfilesOk.f k y361).bind fun t362 => (if t362 = true then (some (y361, true)) else ((impl_copyProfiles.f k p0).bind fun t363 => (some (t363, false))))))) else (none)) else (none)) else (none)
def impl_Switch.l0 (p0 : List S52) : Nat → ByteArray → ByteArray → List (S52) → Int → Option ((List (S52)) × Bool)
  | 0, _, _, _, _ => none
  | k + 1, x1, x2, x8, x9 => if x9 < (x8.length : Int) then (if 0 ≤ x9 then (if (Op.bytesLess (((rd_T52 x8 x9).f0).toList) x1.toList) = true then (impl_Switch.l0 p0 k x1 x2 x8 (wrap64 (x9 + 1))) else (if x8.length < 2932031007402 then ((some (x8 ++ [(⟨(⟨#[]⟩ : ByteArray), 0, ([] : List (S56))⟩ : S52)] : List (S52))).bind fun y324 => (if 0 ≤ (wrap64 (x9 + 1)) then (if (wrap64 (x9 + 1)) ≤ (y324.length : Int) then (if x9 ≤ (y324.length : Int) then (if x9 < (y324.length : Int) then (impl_Switch.j1 p0 k x2 (insP y324 x9 x1) x9) else (none)) else (none)) else (none)) else (none))) else (none))) else (none)) else (if x8.length < 2932031007402 then ((some (x8 ++ [(⟨(⟨#[]⟩ : ByteArray), 0, ([] : List (S56))⟩ : S52)] : List (S52))).bind fun y336 => (if 0 ≤ (wrap64 (x9 + 1)) then (if (wrap64 (x9 + 1)) ≤ (y336.length : Int) then (if 0 ≤ x9 then (if x9 ≤ (y336.length : Int) then (if x9 < (y336.length : Int) then (impl_Switch.j1 p0 k x2 (insP y336 x9 x1) x9) else (none)) else (none)) else (none)) else (none)) else (none))) else (none))
end
def impl_Switch.f (k : Nat) (l0 : List (S52)) (a1 : ByteArray) (a2 : ByteArray) : Option ((List (S52)) × Bool) := (impl_ProfilesOk.f k l0).bind fun t318 => (if t318 = true then ((impl_copyProfiles.f k l0).bind fun t319 => ((impl_profileOf.f k t319 a1).bind fun t322 => (if t322 < 0 then (impl_Switch.l0 l0 k a1 a2 t319 0) else (impl_Switch.j1 l0 k a2 t319 t322)))) else (some (([] : List (S52)), false)))
theorem impl_Switch.mono_l (p0 : List S52) : ∀ k, (∀ y0 y1 y2, LeO (impl_Switch.j1 p0 k y0 y1 y2) (impl_Switch.j1 p0 (k + 1) y0 y1 y2)) ∧ (∀ y0 y1 y2 y3, LeO (impl_Switch.j2 p0 k y0 y1 y2 y3) (impl_Switch.j2 p0 (k + 1) y0 y1 y2 y3)) ∧ (∀ y0 y1 y2 y3, LeO (impl_Switch.j3 p0 k y0 y1 y2 y3) (impl_Switch.j3 p0 (k + 1) y0 y1 y2 y3)) ∧ (∀ y0 y1 y2 y3, LeO (impl_Switch.l0 p0 k y0 y1 y2 y3) (impl_Switch.l0 p0 (k + 1) y0 y1 y2 y3))
  | 0 => ⟨fun _ _ _ r h => by simp [impl_Switch.j1] at h, fun _ _ _ _ r h => by simp [impl_Switch.j2] at h, fun _ _ _ _ r h => by simp [impl_Switch.j3] at h, fun _ _ _ _ r h => by simp [impl_Switch.l0] at h⟩
  | k + 1 => by
    obtain ⟨ih0, ih1, ih2, ih3⟩ := impl_Switch.mono_l p0 k
    refine ⟨?_, ?_, ?_, ?_⟩
    · intro y0 y1 y2
      unfold impl_Switch.j1
      repeat' first
      | (with_reducible exact ih0 _ _ _)
      | (with_reducible exact ih1 _ _ _ _)
      | (with_reducible exact ih2 _ _ _ _)
      | (with_reducible exact ih3 _ _ _ _)
      | (with_reducible exact impl_ProfilesOk.mono _ _)
      | (with_reducible exact impl_copyProfiles.mono _ _)
      | (with_reducible exact impl_current.mono _ _ _ _)
      | (with_reducible exact impl_profileOf.mono _ _ _)
      | (with_reducible exact LeO.refl _)
      | (with_reducible exact LeO.none _)
      | (with_reducible refine LeO.ite ?_ ?_)
      | (with_reducible refine LeO.bind ?_ (fun _ => ?_))
      | exact ih0 _ _ _
      | exact ih1 _ _ _ _
      | exact ih2 _ _ _ _
      | exact ih3 _ _ _ _
      | exact impl_ProfilesOk.mono _ _
      | exact impl_copyProfiles.mono _ _
      | exact impl_current.mono _ _ _ _
      | exact impl_profileOf.mono _ _ _
      | exact LeO.none _
      | refine LeO.ite ?_ ?_
      | refine LeO.bind ?_ (fun _ => ?_)
    · intro y0 y1 y2 y3
      unfold impl_Switch.j2
      repeat' first
      | (with_reducible exact ih0 _ _ _)
      | (with_reducible exact ih1 _ _ _ _)
      | (with_reducible exact ih2 _ _ _ _)
      | (with_reducible exact ih3 _ _ _ _)
      | (with_reducible exact impl_ProfilesOk.mono _ _)
      | (with_reducible exact impl_copyProfiles.mono _ _)
      | (with_reducible exact impl_current.mono _ _ _ _)
      | (with_reducible exact impl_profileOf.mono _ _ _)
      | (with_reducible exact LeO.refl _)
      | (with_reducible exact LeO.none _)
      | (with_reducible refine LeO.ite ?_ ?_)
      | (with_reducible refine LeO.bind ?_ (fun _ => ?_))
      | exact ih0 _ _ _
      | exact ih1 _ _ _ _
      | exact ih2 _ _ _ _
      | exact ih3 _ _ _ _
      | exact impl_ProfilesOk.mono _ _
      | exact impl_copyProfiles.mono _ _
      | exact impl_current.mono _ _ _ _
      | exact impl_profileOf.mono _ _ _
      | exact LeO.none _
      | refine LeO.ite ?_ ?_
      | refine LeO.bind ?_ (fun _ => ?_)
    · intro y0 y1 y2 y3
      unfold impl_Switch.j3
      repeat' first
      | (with_reducible exact ih0 _ _ _)
      | (with_reducible exact ih1 _ _ _ _)
      | (with_reducible exact ih2 _ _ _ _)
      | (with_reducible exact ih3 _ _ _ _)
      | (with_reducible exact impl_ProfilesOk.mono _ _)
      | (with_reducible exact impl_copyProfiles.mono _ _)
      | (with_reducible exact impl_current.mono _ _ _ _)
      | (with_reducible exact impl_profileOf.mono _ _ _)
      | (with_reducible exact LeO.refl _)
      | (with_reducible exact LeO.none _)
      | (with_reducible refine LeO.ite ?_ ?_)
      | (with_reducible refine LeO.bind ?_ (fun _ => ?_))
      | exact ih0 _ _ _
      | exact ih1 _ _ _ _
      | exact ih2 _ _ _ _
      | exact ih3 _ _ _ _
      | exact impl_ProfilesOk.mono _ _
      | exact impl_copyProfiles.mono _ _
      | exact impl_current.mono _ _ _ _
      | exact impl_profileOf.mono _ _ _
      | exact LeO.none _
      | refine LeO.ite ?_ ?_
      | refine LeO.bind ?_ (fun _ => ?_)
    · intro y0 y1 y2 y3
      unfold impl_Switch.l0
      repeat' first
      | (with_reducible exact ih0 _ _ _)
      | (with_reducible exact ih1 _ _ _ _)
      | (with_reducible exact ih2 _ _ _ _)
      | (with_reducible exact ih3 _ _ _ _)
      | (with_reducible exact impl_ProfilesOk.mono _ _)
      | (with_reducible exact impl_copyProfiles.mono _ _)
      | (with_reducible exact impl_current.mono _ _ _ _)
      | (with_reducible exact impl_profileOf.mono _ _ _)
      | (with_reducible exact LeO.refl _)
      | (with_reducible exact LeO.none _)
      | (with_reducible refine LeO.ite ?_ ?_)
      | (with_reducible refine LeO.bind ?_ (fun _ => ?_))
      | exact ih0 _ _ _
      | exact ih1 _ _ _ _
      | exact ih2 _ _ _ _
      | exact ih3 _ _ _ _
      | exact impl_ProfilesOk.mono _ _
      | exact impl_copyProfiles.mono _ _
      | exact impl_current.mono _ _ _ _
      | exact impl_profileOf.mono _ _ _
      | exact LeO.none _
      | refine LeO.ite ?_ ?_
      | refine LeO.bind ?_ (fun _ => ?_)
theorem impl_Switch.mono : ∀ a0 a1 a2 k, LeO (impl_Switch.f k a0 a1 a2) (impl_Switch.f (k + 1) a0 a1 a2) := by
  intro a0 a1 a2 k
  obtain ⟨ih0, ih1, ih2, ih3⟩ := impl_Switch.mono_l a0 k
  unfold impl_Switch.f
  repeat' first
      | (with_reducible exact ih0 _ _ _)
      | (with_reducible exact ih1 _ _ _ _)
      | (with_reducible exact ih2 _ _ _ _)
      | (with_reducible exact ih3 _ _ _ _)
      | (with_reducible exact impl_ProfilesOk.mono _ _)
      | (with_reducible exact impl_copyProfiles.mono _ _)
      | (with_reducible exact impl_current.mono _ _ _ _)
      | (with_reducible exact impl_profileOf.mono _ _ _)
      | (with_reducible exact LeO.refl _)
      | (with_reducible exact LeO.none _)
      | (with_reducible refine LeO.ite ?_ ?_)
      | (with_reducible refine LeO.bind ?_ (fun _ => ?_))
      | exact ih0 _ _ _
      | exact ih1 _ _ _ _
      | exact ih2 _ _ _ _
      | exact ih3 _ _ _ _
      | exact impl_ProfilesOk.mono _ _
      | exact impl_copyProfiles.mono _ _
      | exact impl_current.mono _ _ _ _
      | exact impl_profileOf.mono _ _ _
      | exact LeO.none _
      | refine LeO.ite ?_ ?_
      | refine LeO.bind ?_ (fun _ => ?_)
def impl_Switch.T10 : Bool × List (List Nat × List Nat) := (true, [([], []), ([], []), ([1], [1]), ([0, 2], [0, 2]), ([], []), ([], []), ([4, 5], [4, 5]), ([3, 6], [3, 6])])
def impl_Switch.B10 : List Nat := [0, 0, 2, 7, 0, 0, 48, 127]
theorem impl_Switch.tab10 : rtab .any (opsOf Try.f23 10) = impl_Switch.T10 := by kernel_rfl
theorem impl_Switch.bits10 : waitsOk impl_Switch.T10.2 impl_Switch.B10 = true := by kernel_rfl
set_option maxHeartbeats 16000000 in
set_option maxRecDepth 100000 in
theorem impl_Switch.calls (k : Nat) (A0 : Option Addr) (c0 : Nat) (l0 : List (S52)) (a1 : ByteArray) (a2 : ByteArray) (r1 : List (S52)) (r2 : Bool) (w : World) (hr0 : Kd.C k52 w A0 l0.length l0) (hc0 : l0.length ≤ c0) (h : impl_Switch.f k l0 a1 a2 = some (r1, r2)) :
  Calls Try.prog 23 #[.slice A0 l0.length c0, .string a1, .string a2] w fun e w' => ∃ v0_ : Value, e = .returned (.tuple #[v0_, .bool r2]) ∧ Kd.S k52 52 w' w.heap.size (fun _ => True) v0_ r1 ∧ Below w.heap.size w w' := by
 have hu52 := Try.underlying52
 have hu56 := Try.underlying56
 have HR0 := Aside0.mk hr0
 have HC0 := Aside0.mk hc0
 clear hr0 hc0
 have HB := Aside0.mk (Below.refl w.heap.size w)
 have H : ((impl_ProfilesOk.f k l0).bind fun t318 => (if t318 = true then ((impl_copyProfiles.f k l0).bind fun t319 => ((impl_profileOf.f k t319 a1).bind fun t322 => (if t322 < 0 then (impl_Switch.l0 l0 k a1 a2 t319 0) else (impl_Switch.j1 l0 k a2 t319 t322)))) else (some (([] : List (S52)), false)))) = some (r1, r2) := h
 clear h
 replace H := Option.bind_eq_some_iff.mp H
 obtain ⟨t318, A40, H⟩ := H
 replace H : (if t318 = true then ((impl_copyProfiles.f k l0).bind fun t319 => ((impl_profileOf.f k t319 a1).bind fun t322 => (if t322 < 0 then (impl_Switch.l0 l0 k a1 a2 t319 0) else (impl_Switch.j1 l0 k a2 t319 t322)))) else (some (([] : List (S52)), false))) = some (r1, r2) := H
 have A4 := Aside0.mk A40
 clear A40
 by_cases c5 : t318 = true
 ·subst c5
  have H1 : ((impl_copyProfiles.f k l0).bind fun t319 => ((impl_profileOf.f k t319 a1).bind fun t322 => (if t322 < 0 then (impl_Switch.l0 l0 k a1 a2 t319 0) else (impl_Switch.j1 l0 k a2 t319 t322)))) = some (r1, r2) := by rw [if_pos rfl] at H; exact H
  clear H
  have H := H1
  clear H1
  replace H := Option.bind_eq_some_iff.mp H
  obtain ⟨t319, A60, H⟩ := H
  replace H : ((impl_profileOf.f k t319 a1).bind fun t322 => (if t322 < 0 then (impl_Switch.l0 l0 k a1 a2 t319 0) else (impl_Switch.j1 l0 k a2 t319 t322))) = some (r1, r2) := H
  have A6 := Aside0.mk A60
  clear A60
  replace H := Option.bind_eq_some_iff.mp H
  obtain ⟨t322, A70, H⟩ := H
  replace H : (if t322 < 0 then (impl_Switch.l0 l0 k a1 a2 t319 0) else (impl_Switch.j1 l0 k a2 t319 t322)) = some (r1, r2) := H
  have A7 := Aside0.mk A70
  clear A70
  have HC8 := Aside0.mk H
  clear H
  go_enter Try.func23, Try.ntmps23
  go_upto_if 21 with (first | (go_at_call 12; (with_reducible refine (impl_ProfilesOk.calls k _ _ l0 true _ ?side1 ?side2 A4.out).mono ?_); (case side1 => repeat (first | exact HR0.out | (with_reducible refine Kd.C_alloc ?_ _) | (with_reducible refine Kd.C_drewN ?_ _) | (with_reducible refine Kd.C_drew ?_))); (case side2 => exact HC0.out); rintro e w9 ⟨rfl, hb⟩; have n0_ := Aside0.mk (below_step qB hb); clear HB; have HB := n0_; clear n0_; (try clear hb); (try clear hb2); (try clear hk); (try clear hi)) | (go_at_call 42; (with_reducible refine (impl_copyProfiles.calls k _ _ l0 t319 _ ?side1 ?side2 A6.out).mono ?_); (case side1 => repeat (first | exact (Kd.C_below HR0.out HB.out) | (with_reducible refine Kd.C_alloc ?_ _) | (with_reducible refine Kd.C_drewN ?_ _) | (with_reducible refine Kd.C_drew ?_))); (case side2 => exact HC0.out); rintro e w10 ⟨v320, rfl, ho0, hb⟩; have n0_ := Aside0.mk (Kd.S_lower ho0 (below_size qB)); have n1_ := Aside0.mk (below_step qB hb); clear HB; have HO321 := n0_; have HB := n1_; clear n0_ n1_; (try clear hb); (try clear hb2); (try clear hk); (try clear hi); (try clear ho0); obtain ⟨Ao11, co11, eo11⟩ := Kd.S_slice HO321.out; subst eo11) | (go_at_call 39; (with_reducible refine (impl_profileOf.calls k _ _ t319 a1 t322 _ ?side1 ?side2 A7.out).mono ?_); (case side1 => repeat (first | exact (Kd.S_reads' HO321.out).2.2 | (with_reducible refine Kd.C_alloc ?_ _) | (with_reducible refine Kd.C_drewN ?_ _) | (with_reducible refine Kd.C_drew ?_))); (case side2 => exact (Kd.S_reads' HO321.out).2.1); rintro e w12 ⟨rfl, hb⟩; have n0_ := Aside0.mk (Kd.S_below (by (with_reducible repeat (first | apply Kd.S_alloc | apply Kd.S_drewN | apply Kd.S_drew)); exact HO321.out) hb); have n1_ := Aside0.mk (below_step qB hb); clear HO321; clear HB; have HO321 := n0_; have HB := n1_; clear n0_ n1_; (try clear hb); (try clear hb2); (try clear hk); (try clear hi)))
  repeat (go_quiet (first | (go_at_call 12; (with_reducible refine (impl_ProfilesOk.calls k _ _ l0 true _ ?side1 ?side2 A4.out).mono ?_); (case side1 => repeat (first | exact HR0.out | (with_reducible refine Kd.C_alloc ?_ _) | (with_reducible refine Kd.C_drewN ?_ _) | (with_reducible refine Kd.C_drew ?_))); (case side2 => exact HC0.out); rintro e w9 ⟨rfl, hb⟩; have n0_ := Aside0.mk (below_step qB hb); clear HB; have HB := n0_; clear n0_; (try clear hb); (try clear hb2); (try clear hk); (try clear hi)) | (go_at_call 42; (with_reducible refine (impl_copyProfiles.calls k _ _ l0 t319 _ ?side1 ?side2 A6.out).mono ?_); (case side1 => repeat (first | exact (Kd.C_below HR0.out HB.out) | (with_reducible refine Kd.C_alloc ?_ _) | (with_reducible refine Kd.C_drewN ?_ _) | (with_reducible refine Kd.C_drew ?_))); (case side2 => exact HC0.out); rintro e w10 ⟨v320, rfl, ho0, hb⟩; have n0_ := Aside0.mk (Kd.S_lower ho0 (below_size qB)); have n1_ := Aside0.mk (below_step qB hb); clear HB; have HO321 := n0_; have HB := n1_; clear n0_ n1_; (try clear hb); (try clear hb2); (try clear hk); (try clear hi); (try clear ho0); obtain ⟨Ao11, co11, eo11⟩ := Kd.S_slice HO321.out; subst eo11) | (go_at_call 39; (with_reducible refine (impl_profileOf.calls k _ _ t319 a1 t322 _ ?side1 ?side2 A7.out).mono ?_); (case side1 => repeat (first | exact (Kd.S_reads' HO321.out).2.2 | (with_reducible refine Kd.C_alloc ?_ _) | (with_reducible refine Kd.C_drewN ?_ _) | (with_reducible refine Kd.C_drew ?_))); (case side2 => exact (Kd.S_reads' HO321.out).2.1); rintro e w12 ⟨rfl, hb⟩; have n0_ := Aside0.mk (Kd.S_below (by (with_reducible repeat (first | apply Kd.S_alloc | apply Kd.S_drewN | apply Kd.S_drew)); exact HO321.out) hb); have n1_ := Aside0.mk (below_step qB hb); clear HO321; clear HB; have HO321 := n0_; have HB := n1_; clear n0_ n1_; (try clear hb); (try clear hb2); (try clear hk); (try clear hi))); go_upto_if 21 with (first | (go_at_call 12; (with_reducible refine (impl_ProfilesOk.calls k _ _ l0 true _ ?side1 ?side2 A4.out).mono ?_); (case side1 => repeat (first | exact HR0.out | (with_reducible refine Kd.C_alloc ?_ _) | (with_reducible refine Kd.C_drewN ?_ _) | (with_reducible refine Kd.C_drew ?_))); (case side2 => exact HC0.out); rintro e w9 ⟨rfl, hb⟩; have n0_ := Aside0.mk (below_step qB hb); clear HB; have HB := n0_; clear n0_; (try clear hb); (try clear hb2); (try clear hk); (try clear hi)) | (go_at_call 42; (with_reducible refine (impl_copyProfiles.calls k _ _ l0 t319 _ ?side1 ?side2 A6.out).mono ?_); (case side1 => repeat (first | exact (Kd.C_below HR0.out HB.out) | (with_reducible refine Kd.C_alloc ?_ _) | (with_reducible refine Kd.C_drewN ?_ _) | (with_reducible refine Kd.C_drew ?_))); (case side2 => exact HC0.out); rintro e w10 ⟨v320, rfl, ho0, hb⟩; have n0_ := Aside0.mk (Kd.S_lower ho0 (below_size qB)); have n1_ := Aside0.mk (below_step qB hb); clear HB; have HO321 := n0_; have HB := n1_; clear n0_ n1_; (try clear hb); (try clear hb2); (try clear hk); (try clear hi); (try clear ho0); obtain ⟨Ao11, co11, eo11⟩ := Kd.S_slice HO321.out; subst eo11) | (go_at_call 39; (with_reducible refine (impl_profileOf.calls k _ _ t319 a1 t322 _ ?side1 ?side2 A7.out).mono ?_); (case side1 => repeat (first | exact (Kd.S_reads' HO321.out).2.2 | (with_reducible refine Kd.C_alloc ?_ _) | (with_reducible refine Kd.C_drewN ?_ _) | (with_reducible refine Kd.C_drew ?_))); (case side2 => exact (Kd.S_reads' HO321.out).2.1); rintro e w12 ⟨rfl, hb⟩; have n0_ := Aside0.mk (Kd.S_below (by (with_reducible repeat (first | apply Kd.S_alloc | apply Kd.S_drewN | apply Kd.S_drew)); exact HO321.out) hb); have n1_ := Aside0.mk (below_step qB hb); clear HO321; clear HB; have HO321 := n0_; have HB := n1_; clear n0_ n1_; (try clear hb); (try clear hb2); (try clear hk); (try clear hi))))
  (try simp only [Act.put, List.setIfInBounds_toArray, List.set_cons_zero, List.set_cons_succ])
  go_cut [8, 9] (fun v8 v9 wc => ∃ (kq : Nat) (x8_7 : List (S52)) (x9_7 : Int), v9 = .int .i64 x9_7 ∧ Aside0 (impl_Switch.j1 l0 kq a2 x8_7 x9_7 = some (r1, r2)) ∧ Aside0 (kq ≤ k) ∧ Aside0 (Kd.S k52 52 wc w.heap.size (fun _ => True) v8 x8_7) ∧ Aside0 (Below w.heap.size w wc))
  case first =>
   have H := HC8.out
   clear HC8
   by_cases c13 : t322 < 0
   ·rw [if_pos c13] at H
    have c13b0 : decide (t322 < 0) = true := decide_eq_true c13
    clear c13
    (first | rw [c13b0] | (simp only [i64_w, i32_w]; rw [c13b0]) | skip)
    have H' := Aside0.mk H
    clear H
    go_wp2
    repeat (go_quiet (fail); try go_wp2)
    go_loopg [9] k (fun kq v9 w' => ∃ (x9_1 : Int), v9 = .int .i64 x9_1 ∧ Aside0 (impl_Switch.l0 l0 kq a1 a2 t319 x9_1 = some (r1, r2)) ∧ Aside0 (kq ≤ k) ∧ Aside0 (Kd.S k52 52 w' w.heap.size (fun _ => True) (.slice Ao11 t319.length co11) t319) ∧ Aside0 (Below w.heap.size w w'))
    case atStart => exact ⟨(0), (by first | rfl | (simp; done) | (simp [*]; done)), H', ⟨Nat.le_refl _⟩, ⟨by (with_reducible repeat (first | apply Kd.S_alloc | apply Kd.S_drewN | apply Kd.S_drew)); exact HO321.out⟩, ⟨by repeat (first | (with_reducible first | exact HB.out | apply below_alloc | apply pw_below_drewN | apply below_drew1) | exact HB.out)⟩⟩
    case round =>
     clear H'
     try clear c1
     try clear c2
     try clear p2
     try clear c5
     try clear c13
     try clear c13b0
     obtain ⟨x9_1, rfl, HA, HK1, HO_8, HB⟩ := hrel
     cases gk with
     | zero => exact absurd HA.out (by simp [impl_Switch.l0])
     | succ k1 =>
      have H := HA.out
      clear HA
      simp only [impl_Switch.l0] at H
      by_cases c14 : x9_1 < (t319.length : Int)
      ·rw [if_pos c14] at H
       have c14b0 : decide (x9_1 < (t319.length : Int)) = true := decide_eq_true c14
       clear c14
       by_cases c15 : 0 ≤ x9_1
       ·rw [if_pos c15] at H
        have c15b0 : decide (0 ≤ x9_1) = true := decide_eq_true c15
        clear c15
        by_cases c16 : (Op.bytesLess (((rd_T52 t319 x9_1).f0).toList) a1.toList) = true
        ·rw [if_pos c16] at H
         have c16b0 : (Op.bytesLess (((rd_T52 t319 x9_1).f0).toList) a1.toList) = true := c16
         clear c16
         have H' := Aside0.mk H
         clear H
         have p323 : 0 ≤ (x9_1 : Int) := of_decide_eq_true (by first | (with_reducible assumption) | assumption)
         have q323 : x9_1 < (t319.length : Int) := of_decide_eq_true (by first | (with_reducible assumption) | assumption)
         obtain ⟨ad323, A323_2, c323_2, e323, hx323_0, hx323_1, hx323_2, hl323_2, hi323_2⟩ := at_T52 (Kd.S_reads' HO_8.out).2.2 x9_1 p323 q323
         cases e323
         obtain ⟨ce323, hce323, hMe323, hcc323⟩ := Kd.S_get HO_8.out z52 x9_1 p323 (by first | exact q323 | exact of_decide_eq_true (by first | (with_reducible assumption) | assumption) | (have e_ := (Kd.S_reads' HO_8.out).1; omega))
         obtain ⟨ve323_2, rfl, ge323_2⟩ := k52_openM hMe323
         have hv323_2 := hcc323 2 _ rfl
         rw [add_field _ _ 2 (by omega)] at hv323_2
         replace hv323_2 := Option.some.inj (hv323_2.symm.trans hx323_2)
         rw [hv323_2] at ge323_2
         have HL323_2 := Aside0.mk (show Kd.R k56 56 _ _ _ _ ((rd_T52 t319 x9_1).f2) from ge323_2)
         clear hv323_2 ge323_2
         have HX323_2 := Aside0.mk hx323_2
         clear hcc323 hce323
         have HR323_2 := Aside0.mk hi323_2
         have HC323_2 := Aside0.mk hl323_2
         clear hi323_2 hl323_2
         replace p323 := eq_true p323
         replace q323 := eq_true q323
         go_wp2
         repeat (go_quiet (fail); try go_wp2)
         go_roundg k1
         case measure => have := HK1.out; omega
         case rel => exact ⟨(wrap64 (x9_1 + 1)), (by first | rfl | (simp; done) | (simp [*]; done)), H', ⟨by have := HK1.out; omega⟩, ⟨by (with_reducible repeat (first | apply Kd.S_alloc | apply Kd.S_drewN | apply Kd.S_drew)); exact HO_8.out⟩, ⟨by repeat (first | (with_reducible first | exact HB.out | apply below_alloc | apply pw_below_drewN | apply below_drew1) | exact HB.out)⟩⟩
        ·rw [if_neg c16] at H
         have c16b0 : (Op.bytesLess (((rd_T52 t319 x9_1).f0).toList) a1.toList) = false := by simpa using c16
         clear c16
         by_cases c17 : t319.length < 2932031007402
         ·rw [if_pos c17] at H
          have LMc17 := Aside0.mk c17
          clear c17
          obtain ⟨y324, hy324⟩ : ∃ y_ : List (S52), y_ = (t319 ++ [(⟨(⟨#[]⟩ : ByteArray), 0, ([] : List (S56))⟩ : S52)]) := ⟨_, rfl⟩
          replace H : (if 0 ≤ (wrap64 (x9_1 + 1)) then (if (wrap64 (x9_1 + 1)) ≤ (y324.length : Int) then (if x9_1 ≤ (y324.length : Int) then (if x9_1 < (y324.length : Int) then (impl_Switch.j1 l0 k1 a2 (insP y324 x9_1 a1) x9_1) else (none)) else (none)) else (none)) else (none)) = some (r1, r2) := by first | (rw [hy324]; with_reducible exact H) | (have H2_ := (Option.bind_some _ _).symm.trans H; rw [hy324]; with_reducible exact H2_) | (have H2_ := (Option.bind_some _ _).symm.trans H; with_reducible exact H2_) | with_reducible exact H | (rw [hy324]; exact H) | exact H
          have Ny324 := Aside0.mk hy324
          clear hy324
          obtain ⟨ji18, hji18⟩ : ∃ j_ : Int, (wrap64 (x9_1 + 1)) = j_ := ⟨_, rfl⟩
          replace H : (if 0 ≤ (ji18) then (if (ji18) ≤ (y324.length : Int) then (if x9_1 ≤ (y324.length : Int) then (if x9_1 < (y324.length : Int) then (impl_Switch.j1 l0 k1 a2 (insP y324 x9_1 a1) x9_1) else (none)) else (none)) else (none)) else (none)) = some (r1, r2) := by first | (rw [hji18] at H; exact H) | (simp only [hji18] at H ⊢; exact H)
          have hji18w : (IntKind.i64.wrap (x9_1 + 1)) = ji18 := (i64_w _).trans hji18
          by_cases c19 : 0 ≤ (ji18)
          ·rw [if_pos c19] at H
           have c19b0 := eq_true c19
           have c19b1 : decide (0 ≤ (ji18)) = true := decide_eq_true c19
           clear c19
           by_cases c20 : (ji18) ≤ (y324.length : Int)
           ·rw [if_pos c20] at H
            have c20b0 := eq_true c20
            have c20b1 : decide ((ji18) ≤ (y324.length : Int)) = true := decide_eq_true c20
            clear c20
            obtain ⟨y327, hy327⟩ : ∃ y_ : List (S52), y_ = (y324.drop ((ji18) : Int).toNat) := ⟨_, rfl⟩
            replace H : (if x9_1 ≤ (y324.length : Int) then (if x9_1 < (y324.length : Int) then (impl_Switch.j1 l0 k1 a2 (insP y324 x9_1 a1) x9_1) else (none)) else (none)) = some (r1, r2) := by first | (rw [hy327]; with_reducible exact H) | (have H2_ := (Option.bind_some _ _).symm.trans H; rw [hy327]; with_reducible exact H2_) | (have H2_ := (Option.bind_some _ _).symm.trans H; with_reducible exact H2_) | with_reducible exact H | (rw [hy327]; exact H) | exact H
            have Ny327 := Aside0.mk hy327
            clear hy327
            have c21b0 := eq_true (of_decide_eq_true (by first | (with_reducible assumption) | assumption) : 0 ≤ x9_1)
            by_cases c22 : x9_1 ≤ (y324.length : Int)
            ·rw [if_pos c22] at H
             have c22b0 := eq_true c22
             have c22b1 : decide (x9_1 ≤ (y324.length : Int)) = true := decide_eq_true c22
             clear c22
             obtain ⟨y331, hy331⟩ : ∃ y_ : List (S52), y_ = (y324.drop (x9_1 : Int).toNat) := ⟨_, rfl⟩
             replace H : (if x9_1 < (y324.length : Int) then (impl_Switch.j1 l0 k1 a2 (insP y324 x9_1 a1) x9_1) else (none)) = some (r1, r2) := by first | (rw [hy331]; with_reducible exact H) | (have H2_ := (Option.bind_some _ _).symm.trans H; rw [hy331]; with_reducible exact H2_) | (have H2_ := (Option.bind_some _ _).symm.trans H; with_reducible exact H2_) | with_reducible exact H | (rw [hy331]; exact H) | exact H
             have Ny331 := Aside0.mk hy331
             clear hy331
             by_cases c23 : x9_1 < (y324.length : Int)
             ·rw [if_pos c23] at H
              have c23b0 : decide (x9_1 < (y324.length : Int)) = true := decide_eq_true c23
              clear c23
              obtain ⟨y335, hy335⟩ : ∃ y_ : List (S52), y_ = (insP y324 x9_1 a1) := ⟨_, rfl⟩
              replace H : (impl_Switch.j1 l0 k1 a2 y335 x9_1) = some (r1, r2) := by first | (rw [hy335]; with_reducible exact H) | (have H2_ := (Option.bind_some _ _).symm.trans H; rw [hy335]; with_reducible exact H2_) | (have H2_ := (Option.bind_some _ _).symm.trans H; with_reducible exact H2_) | with_reducible exact H | (rw [hy335]; exact H) | exact H
              have Ny335 := Aside0.mk hy335
              clear hy335
              have H' := Aside0.mk H
              clear H
              have p323 : 0 ≤ (x9_1 : Int) := of_decide_eq_true (by first | (with_reducible assumption) | assumption)
              have q323 : x9_1 < (t319.length : Int) := of_decide_eq_true (by first | (with_reducible assumption) | assumption)
              obtain ⟨ad323, A323_2, c323_2, e323, hx323_0, hx323_1, hx323_2, hl323_2, hi323_2⟩ := at_T52 (Kd.S_reads' HO_8.out).2.2 x9_1 p323 q323
              cases e323
              obtain ⟨ce323, hce323, hMe323, hcc323⟩ := Kd.S_get HO_8.out z52 x9_1 p323 (by first | exact q323 | exact of_decide_eq_true (by first | (with_reducible assumption) | assumption) | (have e_ := (Kd.S_reads' HO_8.out).1; omega))
              obtain ⟨ve323_2, rfl, ge323_2⟩ := k52_openM hMe323
              have hv323_2 := hcc323 2 _ rfl
              rw [add_field _ _ 2 (by omega)] at hv323_2
              replace hv323_2 := Option.some.inj (hv323_2.symm.trans hx323_2)
              rw [hv323_2] at ge323_2
              have HL323_2 := Aside0.mk (show Kd.R k56 56 _ _ _ _ ((rd_T52 t319 x9_1).f2) from ge323_2)
              clear hv323_2 ge323_2
              have HX323_2 := Aside0.mk hx323_2
              clear hcc323 hce323
              have HR323_2 := Aside0.mk hi323_2
              have HC323_2 := Aside0.mk hl323_2
              clear hi323_2 hl323_2
              replace p323 := eq_true p323
              replace q323 := eq_true q323
              try (have eb_ := Option.some.inj (hx323_2.symm.trans hx323_2); injection eb_ with ea_ en_ ec_; subst ea_; subst ec_; clear en_)
              go_wp2_with (first | ((with_reducible refine gate_builtin (b := .append) (xs := #[.tmp 37, .tmp 39]) rfl ?_); at_builtin; refine Kd.S_append k52 (w0 := w) w.heap.size rfl (.tmp 37) (.tmp 39) 25 52 (.agg #[(.string ⟨#[]⟩), (.int .i64 0), (.slice none 0 0)]) 48 rfl Try.underlying25 info52 rfl (by decide) (by omega) (.slice (some ad323) t319.length co11) t319 (⟨(⟨#[]⟩ : ByteArray), 0, ([] : List (S56))⟩ : S52) [.string (⟨#[]⟩ : ByteArray), .int .i64 0, .slice none 0 0] (fun _ => True) (fun _ => False) rfl rfl ?aP (fun k_ hk_ => hk_.elim) ?aF ?aO ?aB ?aS ?aL ?_; (case aP => exact k52_mkM _ _ _ (⟨(⟨#[]⟩ : ByteArray), 0, ([] : List (S56))⟩ : S52) (Kd.R_nil _ _ _ _ _)); (case aB => exact qB); (case aF => exact (fun _ _ => trivial)); (case aO => exact (by (with_reducible repeat (first | apply Kd.S_alloc | apply Kd.S_drewN | apply Kd.S_drew)); exact Kd.S_mono HO_8.out (fun k_ hk => ⟨trivial, fun e_ => e_⟩))); (case aS => exact (below_size qB)); (case aL => have := LMc17.out; omega); intro v325 w25 ho hb hg hat; rw [← Ny324.out] at ho; have n0_ := Aside0.mk (Kd.R_after (ok := (fun _ => True)) (by (with_reducible repeat (first | apply Kd.R_alloc | apply Kd.R_drewN | apply Kd.R_drew)); exact HL323_2.out) hg hat); have n1_ := Aside0.mk (hb); have n2_ := Aside0.mk (ho); clear HL323_2; clear HB; clear HO_8; have HL323_2 := n0_; have HB := n1_; have HO326 := n2_; clear n0_ n1_ n2_; clear ho hb hg hat; obtain ⟨Ao27, co27, eo27⟩ := Kd.S_slice HO326.out; subst eo27; have q26 : ((ji18) : Int) ≤ ((y324.length : Int) : Int) := of_decide_eq_true (by first | (with_reducible assumption) | assumption); obtain ⟨i026, hi026, _, hsz26, _⟩ := info_parts info52; have hroom26 : y324.length ≤ co27 := (Kd.S_reads' HO326.out).2.1; have hC26 : Kd.C k52 _ Ao27 y324.length y324 := (Kd.S_reads' HO326.out).2.2; have q026 : (0 : Int) ≤ ((ji18) : Int) := of_decide_eq_true (by first | (with_reducible assumption) | assumption); have hcut26 := cut_from (P := Try.prog) 25 52 .i64 Try.underlying25 hi026 3 hsz26 Ao27 y324.length co27 (ji18) q026 q26; have hr26 := Kd.C_drop (m := ((ji18) : Int).toNat) (c := co27) hC26 (by omega) hroom26; obtain ⟨A26, hA26⟩ : ∃ A1, A1 = (if co27 = ((ji18) : Int).toNat then Ao27 else (Ao27 : Option Addr).map (·.add (((ji18) : Int).toNat * 3))) := ⟨_, rfl⟩; obtain ⟨c26, hc26⟩ : ∃ c1, c1 = co27 - ((ji18) : Int).toNat := ⟨_, rfl⟩; have hy26 : y327.length = y324.length - ((ji18) : Int).toNat := (by rw [Ny327.out, List.length_drop] <;> omega); rw [show (y324).drop ((ji18) : Int).toNat = y327 from Ny327.out.symm] at hr26; replace hr26 : Kd.C k52 _ A26 y327.length y327 := (by rw [hA26]; exact hr26); rw [← hy26, ← hA26, ← hc26] at hcut26; have HR330 := Aside0.mk hr26; have HC330 := Aside0.mk (show y327.length ≤ c26 from by rw [hy26, hc26]; exact Nat.sub_le_sub_right hroom26 _); clear hr26 hC26 hroom26 hi026 hsz26 hc26; have KY26 := Aside0.mk hy26; have KA26 := Aside0.mk hA26; clear hy26 hA26; have KL26 := Aside0.mk (show ((ji18) : Int).toNat ≤ y324.length from by omega); replace q26 := eq_true q26; have q28 : (x9_1 : Int) ≤ ((y324.length : Int) : Int) := of_decide_eq_true (by first | (with_reducible assumption) | assumption); obtain ⟨i028, hi028, _, hsz28, _⟩ := info_parts info52; have hroom28 : y324.length ≤ co27 := (Kd.S_reads' HO326.out).2.1; have hC28 : Kd.C k52 _ Ao27 y324.length y324 := (Kd.S_reads' HO326.out).2.2; have q028 : (0 : Int) ≤ (x9_1 : Int) := of_decide_eq_true (by first | (with_reducible assumption) | assumption); have hcut28 := cut_from (P := Try.prog) 25 52 .i64 Try.underlying25 hi028 3 hsz28 Ao27 y324.length co27 x9_1 q028 q28; have hr28 := Kd.C_drop (m := (x9_1 : Int).toNat) (c := co27) hC28 (by omega) hroom28; obtain ⟨A28, hA28⟩ : ∃ A1, A1 = (if co27 = (x9_1 : Int).toNat then Ao27 else (Ao27 : Option Addr).map (·.add ((x9_1 : Int).toNat * 3))) := ⟨_, rfl⟩; obtain ⟨c28, hc28⟩ : ∃ c1, c1 = co27 - (x9_1 : Int).toNat := ⟨_, rfl⟩; have hy28 : y331.length = y324.length - (x9_1 : Int).toNat := (by rw [Ny331.out, List.length_drop] <;> omega); rw [show (y324).drop (x9_1 : Int).toNat = y331 from Ny331.out.symm] at hr28; replace hr28 : Kd.C k52 _ A28 y331.length y331 := (by rw [hA28]; exact hr28); rw [← hy28, ← hA28, ← hc28] at hcut28; have HR334 := Aside0.mk hr28; have HC334 := Aside0.mk (show y331.length ≤ c28 from by rw [hy28, hc28]; exact Nat.sub_le_sub_right hroom28 _); clear hr28 hC28 hroom28 hi028 hsz28 hc28; have KY28 := Aside0.mk hy28; have KA28 := Aside0.mk hA28; clear hy28 hA28; have KL28 := Aside0.mk (show (x9_1 : Int).toNat ≤ y324.length from by omega); replace q28 := eq_true q28; have p24 : 0 ≤ (x9_1 : Int) := of_decide_eq_true (by first | (with_reducible assumption) | assumption); have q24 : (x9_1 : Int) < ((y324.length : Int) : Int) := of_decide_eq_true (by first | (with_reducible assumption) | assumption); obtain ⟨go24, co24, eo24, gb24, gl24, cl24, HG24⟩ := Kd.S_form HO326.out (by omega); (first | cases eo24 | (injection eo24 with ea_ en_ ec_; (first | subst ea_ | (injection ea_ with ea_; subst ea_)); subst ec_; clear en_)); have GB24 := Aside0.mk gb24; have GG24 := Aside0.mk HG24; clear gb24 gl24 HG24))
              clear HL323_2
              have hyl_ : y324.length = t319.length + 1 := by rw [Ny324.out, List.length_append, List.length_singleton]
              have HQi := Aside0.mk (show 0 ≤ x9_1 ∧ x9_1 < (t319.length : Int) + 1 from by
               have a_ : 0 ≤ x9_1 := of_decide_eq_true (by first | (with_reducible assumption) | assumption)
               have b_ : x9_1 < (y324.length : Int) := of_decide_eq_true (by first | (with_reducible assumption) | assumption)
               omega)
              have HJI := Aside0.mk (show (ji18).toNat = x9_1.toNat + 1 from by have := HQi.out; have := LMc17.out; rw [← hji18]; unfold wrap64; omega)
              have HYL := Aside0.mk hyl_
              clear hyl_
              have HOd := Aside0.mk (Kd.S_drew HO326.out)
              have HBd := Aside0.mk (below_drew1 HB.out)
              clear HO326 HB
              refine start_ (n := 8) (S := fun _ => True) (ds := []) (tf 8 0) (by kernel_rfl) rfl rfl trivial (fun hHeld => ?_); refine with_tabW impl_Switch.tab10 impl_Switch.bits10 (fun HT_ HW_ => ?_)
              generalize w25.drew = w25d at HOd HBd hHeld ⊢
              refine qA 0 41 (tf 8 1) ?_
              refine qA 1 42 (tf 8 3) ?_
              refine qA 2 43 (tf 8 7) ?_
              refine qA 3 44 (tf 8 15) ?_
              refine qA 4 45 (tf 8 31) ?_
              refine qA 5 46 (tf 8 63) ?_
              refine qA 6 47 (tf 8 127) ?_
              refine one_ (i := 7) (N := some 48) (tf 8 255) rfl rfl (one_of HT_.out (by kernel_rfl)) (by decide) (fun K hK => ?_)
              refine Kd.S_copy_step (d := k52) (e := 52) (xs := t319) (z := (⟨(⟨#[]⟩ : ByteArray), 0, ([] : List (S56))⟩ : S52)) (ok := fun _ => True) (by rfl) (.tmp 44) (.tmp 47) 25 rfl Try.underlying25 (by kernel_rfl) x9_1.toNat (by have := HQi.out; omega) HYL.out (Kd.S_reads' HOd.out).2.1 (by rw [← Ny324.out]; exact HOd.out) rfl (by rw [KY26.out, HJI.out]) (by rw [KA26.out, HJI.out]; rfl) rfl KY28.out KA28.out ?_
              intro w25c c_ hH hg
              have HBn := Aside0.mk (Below.grown HBd.out hg (below_size HBd.out) (fun k_ e_ => by injection e_ with e_; rw [← e_]; exact GB24.out))
              rw [show ((x9_1.toNat : Nat) : Int) = x9_1 by have := HQi.out; omega] at hH
              have HH := Aside0.mk hH
              clear hH hg HOd HBd
              refine hK.out _ _ trivial (fun hHeld => ?_)
              clear hK K
              refine norm_ (a' := ?_) ?_ ?_
              rotate_left
              ·show Act.put _ (some 48) _ = _
               simp only [Act.put, sT, s0, sS, i64_w, i32_w]
               rfl
              refine done_ (done_of HT_.out (by kernel_rfl)) ?_
              obtain ⟨hcl_, hcc_, hfr_⟩ := Kd.H_cells HH.out HQi.out.1 (by have := HQi.out; have := HYL.out; omega)
              obtain ⟨u0_, u1_, u2_, hc3_⟩ : ∃ u0 u1 u2 : Value, c_ = [u0, u1, u2] := three_of hcl_
              subst hc3_
              have HP29 := Kd.S_seg HH.out HQi.out.1 (by have := HQi.out; have := HYL.out; omega) (seg := [.string a1, .int .i64 0, .slice none 0 0]) (j := 0) (show 3 ≤ 3 from by decide) (x' := (⟨a1, 0, ([] : List (S56))⟩ : S52)) (k52_mkM _ _ _ (⟨a1, 0, ([] : List (S56))⟩ : S52) (Kd.R_nil _ _ _ _ _)) (fun _ hk => hk) (fun k_ hk_ => hk_.elim)
              have hx29_0 := hcc_ 0 _ rfl
              simp only [show (k52).sz = 3 from rfl, Nat.add_zero] at hx29_0
              have hf29_0 := hfr_ 0
              simp only [show (k52).sz = 3 from rfl, Nat.add_zero] at hf29_0
              have hx29_1 := hcc_ 1 _ rfl
              simp only [show (k52).sz = 3 from rfl, Nat.add_zero] at hx29_1
              have hf29_1 := hfr_ 1
              simp only [show (k52).sz = 3 from rfl, Nat.add_zero] at hf29_1
              have hx29_2 := hcc_ 2 _ rfl
              simp only [show (k52).sz = 3 from rfl, Nat.add_zero] at hx29_2
              have hf29_2 := hfr_ 2
              simp only [show (k52).sz = 3 from rfl, Nat.add_zero] at hf29_2
              have hp0_ := eq_true HQi.out.1
              have hq0_ := eq_true (show x9_1 < (y324.length : Int) from by have := HQi.out; have := HYL.out; omega)
              clear hcl_ hcc_ hfr_
              have HIN := Aside0.mk (show y335 = (t319.take x9_1.toNat ++ (⟨(⟨#[]⟩ : ByteArray), 0, ([] : List (S56))⟩ : S52) :: t319.drop x9_1.toNat).set x9_1.toNat ⟨a1, 0, ([] : List (S56))⟩ from by rw [Ny335.out, Ny324.out]; exact insP_set _ _ _ _ (by have := HQi.out; omega))
              go_wp2_with ((with_reducible refine gate_store (t := 52) (p := 53) rfl ?_); go_loud (refine store_event (t := 52) (p := 53) (v := ?vo_) (w1 := (((w25c.setCell ⟨go24, x9_1.toNat * 3, none⟩ (.string a1)).setCell ⟨go24, x9_1.toNat * 3 + 1, none⟩ (.int .i64 0)).setCell ⟨go24, x9_1.toNat * 3 + 2, none⟩ (.slice none 0 0))) ?hg ?ho ?hn ?hr ?_; (case ho => rfl); (case hg => rfl); (case hn => rfl); (case hr => first | (go_simp; done) | (go_simp; rfl)); intro w30s hw; have HO279s := Aside0.mk (show Kd.S k52 52 w30s w.heap.size (fun _ => True) (.slice (some ⟨go24, 0, none⟩) y324.length co27) y335 from (by rw [hw, HIN.out]; exact HP29.1)); have HB := Aside0.mk ((by rw [hw]; exact below_set (below_set (below_set (HBn.out) GB24.out) GB24.out) GB24.out : Below w.heap.size w w30s)); clear HP29 hw HBn HH))
              go_meet
              case rel => exact ⟨_, (y335), (x9_1), (by first | rfl | (simp; done) | (simp [*]; done)), H', ⟨by have := HK1.out; first | omega | exact Nat.le_refl _⟩, ⟨by (with_reducible repeat (first | apply Kd.S_alloc | apply Kd.S_drewN | apply Kd.S_drew)); exact HO279s.out⟩, ⟨by repeat (first | (with_reducible first | exact HB.out | apply below_alloc | apply pw_below_drewN | apply below_drew1) | exact HB.out)⟩⟩
             ·rw [if_neg c23] at H
              exact absurd H (by simp)
            ·rw [if_neg c22] at H
             exact absurd H (by simp)
           ·rw [if_neg c20] at H
            exact absurd H (by simp)
          ·rw [if_neg c19] at H
           exact absurd H (by simp)
         ·rw [if_neg c17] at H
          exact absurd H (by simp)
       ·rw [if_neg c15] at H
        exact absurd H (by simp)
      ·rw [if_neg c14] at H
       have c14b0 : decide (x9_1 < (t319.length : Int)) = false := decide_eq_false c14
       clear c14
       by_cases c31 : t319.length < 2932031007402
       ·rw [if_pos c31] at H
        have LMc31 := Aside0.mk c31
        clear c31
        obtain ⟨y336, hy336⟩ : ∃ y_ : List (S52), y_ = (t319 ++ [(⟨(⟨#[]⟩ : ByteArray), 0, ([] : List (S56))⟩ : S52)]) := ⟨_, rfl⟩
        replace H : (if 0 ≤ (wrap64 (x9_1 + 1)) then (if (wrap64 (x9_1 + 1)) ≤ (y336.length : Int) then (if 0 ≤ x9_1 then (if x9_1 ≤ (y336.length : Int) then (if x9_1 < (y336.length : Int) then (impl_Switch.j1 l0 k1 a2 (insP y336 x9_1 a1) x9_1) else (none)) else (none)) else (none)) else (none)) else (none)) = some (r1, r2) := by first | (rw [hy336]; with_reducible exact H) | (have H2_ := (Option.bind_some _ _).symm.trans H; rw [hy336]; with_reducible exact H2_) | (have H2_ := (Option.bind_some _ _).symm.trans H; with_reducible exact H2_) | with_reducible exact H | (rw [hy336]; exact H) | exact H
        have Ny336 := Aside0.mk hy336
        clear hy336
        obtain ⟨ji32, hji32⟩ : ∃ j_ : Int, (wrap64 (x9_1 + 1)) = j_ := ⟨_, rfl⟩
        replace H : (if 0 ≤ (ji32) then (if (ji32) ≤ (y336.length : Int) then (if 0 ≤ x9_1 then (if x9_1 ≤ (y336.length : Int) then (if x9_1 < (y336.length : Int) then (impl_Switch.j1 l0 k1 a2 (insP y336 x9_1 a1) x9_1) else (none)) else (none)) else (none)) else (none)) else (none)) = some (r1, r2) := by first | (rw [hji32] at H; exact H) | (simp only [hji32] at H ⊢; exact H)
        have hji32w : (IntKind.i64.wrap (x9_1 + 1)) = ji32 := (i64_w _).trans hji32
        by_cases c33 : 0 ≤ (ji32)
        ·rw [if_pos c33] at H
         have c33b0 := eq_true c33
         have c33b1 : decide (0 ≤ (ji32)) = true := decide_eq_true c33
         clear c33
         by_cases c34 : (ji32) ≤ (y336.length : Int)
         ·rw [if_pos c34] at H
          have c34b0 := eq_true c34
          have c34b1 : decide ((ji32) ≤ (y336.length : Int)) = true := decide_eq_true c34
          clear c34
          obtain ⟨y339, hy339⟩ : ∃ y_ : List (S52), y_ = (y336.drop ((ji32) : Int).toNat) := ⟨_, rfl⟩
          replace H : (if 0 ≤ x9_1 then (if x9_1 ≤ (y336.length : Int) then (if x9_1 < (y336.length : Int) then (impl_Switch.j1 l0 k1 a2 (insP y336 x9_1 a1) x9_1) else (none)) else (none)) else (none)) = some (r1, r2) := by first | (rw [hy339]; with_reducible exact H) | (have H2_ := (Option.bind_some _ _).symm.trans H; rw [hy339]; with_reducible exact H2_) | (have H2_ := (Option.bind_some _ _).symm.trans H; with_reducible exact H2_) | with_reducible exact H | (rw [hy339]; exact H) | exact H
          have Ny339 := Aside0.mk hy339
          clear hy339
          by_cases c35 : 0 ≤ x9_1
          ·rw [if_pos c35] at H
           have c35b0 := eq_true c35
           have c35b1 : decide (0 ≤ x9_1) = true := decide_eq_true c35
           clear c35
           by_cases c36 : x9_1 ≤ (y336.length : Int)
           ·rw [if_pos c36] at H
            have c36b0 := eq_true c36
            have c36b1 : decide (x9_1 ≤ (y336.length : Int)) = true := decide_eq_true c36
            clear c36
            obtain ⟨y343, hy343⟩ : ∃ y_ : List (S52), y_ = (y336.drop (x9_1 : Int).toNat) := ⟨_, rfl⟩
            replace H : (if x9_1 < (y336.length : Int) then (impl_Switch.j1 l0 k1 a2 (insP y336 x9_1 a1) x9_1) else (none)) = some (r1, r2) := by first | (rw [hy343]; with_reducible exact H) | (have H2_ := (Option.bind_some _ _).symm.trans H; rw [hy343]; with_reducible exact H2_) | (have H2_ := (Option.bind_some _ _).symm.trans H; with_reducible exact H2_) | with_reducible exact H | (rw [hy343]; exact H) | exact H
            have Ny343 := Aside0.mk hy343
            clear hy343
            by_cases c37 : x9_1 < (y336.length : Int)
            ·rw [if_pos c37] at H
             have c37b0 : decide (x9_1 < (y336.length : Int)) = true := decide_eq_true c37
             clear c37
             obtain ⟨y347, hy347⟩ : ∃ y_ : List (S52), y_ = (insP y336 x9_1 a1) := ⟨_, rfl⟩
             replace H : (impl_Switch.j1 l0 k1 a2 y347 x9_1) = some (r1, r2) := by first | (rw [hy347]; with_reducible exact H) | (have H2_ := (Option.bind_some _ _).symm.trans H; rw [hy347]; with_reducible exact H2_) | (have H2_ := (Option.bind_some _ _).symm.trans H; with_reducible exact H2_) | with_reducible exact H | (rw [hy347]; exact H) | exact H
             have Ny347 := Aside0.mk hy347
             clear hy347
             have H' := Aside0.mk H
             clear H
             go_wp2_with (first | ((with_reducible refine gate_builtin (b := .append) (xs := #[.tmp 37, .tmp 39]) rfl ?_); at_builtin; refine Kd.S_append k52 (w0 := w) w.heap.size rfl (.tmp 37) (.tmp 39) 25 52 (.agg #[(.string ⟨#[]⟩), (.int .i64 0), (.slice none 0 0)]) 48 rfl Try.underlying25 info52 rfl (by decide) (by omega) (.slice Ao11 t319.length co11) t319 (⟨(⟨#[]⟩ : ByteArray), 0, ([] : List (S56))⟩ : S52) [.string (⟨#[]⟩ : ByteArray), .int .i64 0, .slice none 0 0] (fun _ => True) (fun _ => False) rfl rfl ?aP (fun k_ hk_ => hk_.elim) ?aF ?aO ?aB ?aS ?aL ?_; (case aP => exact k52_mkM _ _ _ (⟨(⟨#[]⟩ : ByteArray), 0, ([] : List (S56))⟩ : S52) (Kd.R_nil _ _ _ _ _)); (case aB => exact qB); (case aF => exact (fun _ _ => trivial)); (case aO => exact (by (with_reducible repeat (first | apply Kd.S_alloc | apply Kd.S_drewN | apply Kd.S_drew)); exact Kd.S_mono HO_8.out (fun k_ hk => ⟨trivial, fun e_ => e_⟩))); (case aS => exact (below_size qB)); (case aL => have := LMc31.out; omega); intro v337 w39 ho hb hg hat; rw [← Ny336.out] at ho; have n0_ := Aside0.mk (hb); have n1_ := Aside0.mk (ho); clear HB; clear HO_8; have HB := n0_; have HO338 := n1_; clear n0_ n1_; clear ho hb hg hat; obtain ⟨Ao41, co41, eo41⟩ := Kd.S_slice HO338.out; subst eo41; have q40 : ((ji32) : Int) ≤ ((y336.length : Int) : Int) := of_decide_eq_true (by first | (with_reducible assumption) | assumption); obtain ⟨i040, hi040, _, hsz40, _⟩ := info_parts info52; have hroom40 : y336.length ≤ co41 := (Kd.S_reads' HO338.out).2.1; have hC40 : Kd.C k52 _ Ao41 y336.length y336 := (Kd.S_reads' HO338.out).2.2; have q040 : (0 : Int) ≤ ((ji32) : Int) := of_decide_eq_true (by first | (with_reducible assumption) | assumption); have hcut40 := cut_from (P := Try.prog) 25 52 .i64 Try.underlying25 hi040 3 hsz40 Ao41 y336.length co41 (ji32) q040 q40; have hr40 := Kd.C_drop (m := ((ji32) : Int).toNat) (c := co41) hC40 (by omega) hroom40; obtain ⟨A40, hA40⟩ : ∃ A1, A1 = (if co41 = ((ji32) : Int).toNat then Ao41 else (Ao41 : Option Addr).map (·.add (((ji32) : Int).toNat * 3))) := ⟨_, rfl⟩; obtain ⟨c40, hc40⟩ : ∃ c1, c1 = co41 - ((ji32) : Int).toNat := ⟨_, rfl⟩; have hy40 : y339.length = y336.length - ((ji32) : Int).toNat := (by rw [Ny339.out, List.length_drop] <;> omega); rw [show (y336).drop ((ji32) : Int).toNat = y339 from Ny339.out.symm] at hr40; replace hr40 : Kd.C k52 _ A40 y339.length y339 := (by rw [hA40]; exact hr40); rw [← hy40, ← hA40, ← hc40] at hcut40; have HR342 := Aside0.mk hr40; have HC342 := Aside0.mk (show y339.length ≤ c40 from by rw [hy40, hc40]; exact Nat.sub_le_sub_right hroom40 _); clear hr40 hC40 hroom40 hi040 hsz40 hc40; have KY40 := Aside0.mk hy40; have KA40 := Aside0.mk hA40; clear hy40 hA40; have KL40 := Aside0.mk (show ((ji32) : Int).toNat ≤ y336.length from by omega); replace q40 := eq_true q40; have q42 : (x9_1 : Int) ≤ ((y336.length : Int) : Int) := of_decide_eq_true (by first | (with_reducible assumption) | assumption); obtain ⟨i042, hi042, _, hsz42, _⟩ := info_parts info52; have hroom42 : y336.length ≤ co41 := (Kd.S_reads' HO338.out).2.1; have hC42 : Kd.C k52 _ Ao41 y336.length y336 := (Kd.S_reads' HO338.out).2.2; have q042 : (0 : Int) ≤ (x9_1 : Int) := of_decide_eq_true (by first | (with_reducible assumption) | assumption); have hcut42 := cut_from (P := Try.prog) 25 52 .i64 Try.underlying25 hi042 3 hsz42 Ao41 y336.length co41 x9_1 q042 q42; have hr42 := Kd.C_drop (m := (x9_1 : Int).toNat) (c := co41) hC42 (by omega) hroom42; obtain ⟨A42, hA42⟩ : ∃ A1, A1 = (if co41 = (x9_1 : Int).toNat then Ao41 else (Ao41 : Option Addr).map (·.add ((x9_1 : Int).toNat * 3))) := ⟨_, rfl⟩; obtain ⟨c42, hc42⟩ : ∃ c1, c1 = co41 - (x9_1 : Int).toNat := ⟨_, rfl⟩; have hy42 : y343.length = y336.length - (x9_1 : Int).toNat := (by rw [Ny343.out, List.length_drop] <;> omega); rw [show (y336).drop (x9_1 : Int).toNat = y343 from Ny343.out.symm] at hr42; replace hr42 : Kd.C k52 _ A42 y343.length y343 := (by rw [hA42]; exact hr42); rw [← hy42, ← hA42, ← hc42] at hcut42; have HR346 := Aside0.mk hr42; have HC346 := Aside0.mk (show y343.length ≤ c42 from by rw [hy42, hc42]; exact Nat.sub_le_sub_right hroom42 _); clear hr42 hC42 hroom42 hi042 hsz42 hc42; have KY42 := Aside0.mk hy42; have KA42 := Aside0.mk hA42; clear hy42 hA42; have KL42 := Aside0.mk (show (x9_1 : Int).toNat ≤ y336.length from by omega); replace q42 := eq_true q42; have p38 : 0 ≤ (x9_1 : Int) := of_decide_eq_true (by first | (with_reducible assumption) | assumption); have q38 : (x9_1 : Int) < ((y336.length : Int) : Int) := of_decide_eq_true (by first | (with_reducible assumption) | assumption); obtain ⟨go38, co38, eo38, gb38, gl38, cl38, HG38⟩ := Kd.S_form HO338.out (by omega); (first | cases eo38 | (injection eo38 with ea_ en_ ec_; (first | subst ea_ | (injection ea_ with ea_; subst ea_)); subst ec_; clear en_)); have GB38 := Aside0.mk gb38; have GG38 := Aside0.mk HG38; clear gb38 gl38 HG38))
             have hyl_ : y336.length = t319.length + 1 := by rw [Ny336.out, List.length_append, List.length_singleton]
             have HQi := Aside0.mk (show 0 ≤ x9_1 ∧ x9_1 < (t319.length : Int) + 1 from by
              have a_ : 0 ≤ x9_1 := of_decide_eq_true (by first | (with_reducible assumption) | assumption)
              have b_ : x9_1 < (y336.length : Int) := of_decide_eq_true (by first | (with_reducible assumption) | assumption)
              omega)
             have HJI := Aside0.mk (show (ji32).toNat = x9_1.toNat + 1 from by have := HQi.out; have := LMc31.out; rw [← hji32]; unfold wrap64; omega)
             have HYL := Aside0.mk hyl_
             clear hyl_
             have HOd := Aside0.mk (Kd.S_drew HO338.out)
             have HBd := Aside0.mk (below_drew1 HB.out)
             clear HO338 HB
             refine start_ (n := 8) (S := fun _ => True) (ds := []) (tf 8 0) (by kernel_rfl) rfl rfl trivial (fun hHeld => ?_); refine with_tabW impl_Switch.tab10 impl_Switch.bits10 (fun HT_ HW_ => ?_)
             generalize w39.drew = w25d at HOd HBd hHeld ⊢
             refine qA 0 41 (tf 8 1) ?_
             refine qA 1 42 (tf 8 3) ?_
             refine qA 2 43 (tf 8 7) ?_
             refine qA 3 44 (tf 8 15) ?_
             refine qA 4 45 (tf 8 31) ?_
             refine qA 5 46 (tf 8 63) ?_
             refine qA 6 47 (tf 8 127) ?_
             refine one_ (i := 7) (N := some 48) (tf 8 255) rfl rfl (one_of HT_.out (by kernel_rfl)) (by decide) (fun K hK => ?_)
             refine Kd.S_copy_step (d := k52) (e := 52) (xs := t319) (z := (⟨(⟨#[]⟩ : ByteArray), 0, ([] : List (S56))⟩ : S52)) (ok := fun _ => True) (by rfl) (.tmp 44) (.tmp 47) 25 rfl Try.underlying25 (by kernel_rfl) x9_1.toNat (by have := HQi.out; omega) HYL.out (Kd.S_reads' HOd.out).2.1 (by rw [← Ny336.out]; exact HOd.out) rfl (by rw [KY40.out, HJI.out]) (by rw [KA40.out, HJI.out]; rfl) rfl KY42.out KA42.out ?_
             intro w25c c_ hH hg
             have HBn := Aside0.mk (Below.grown HBd.out hg (below_size HBd.out) (fun k_ e_ => by injection e_ with e_; rw [← e_]; exact GB38.out))
             rw [show ((x9_1.toNat : Nat) : Int) = x9_1 by have := HQi.out; omega] at hH
             have HH := Aside0.mk hH
             clear hH hg HOd HBd
             refine hK.out _ _ trivial (fun hHeld => ?_)
             clear hK K
             refine norm_ (a' := ?_) ?_ ?_
             rotate_left
             ·show Act.put _ (some 48) _ = _
              simp only [Act.put, sT, s0, sS, i64_w, i32_w]
              rfl
             refine done_ (done_of HT_.out (by kernel_rfl)) ?_
             obtain ⟨hcl_, hcc_, hfr_⟩ := Kd.H_cells HH.out HQi.out.1 (by have := HQi.out; have := HYL.out; omega)
             obtain ⟨u0_, u1_, u2_, hc3_⟩ : ∃ u0 u1 u2 : Value, c_ = [u0, u1, u2] := three_of hcl_
             subst hc3_
             have HP29 := Kd.S_seg HH.out HQi.out.1 (by have := HQi.out; have := HYL.out; omega) (seg := [.string a1, .int .i64 0, .slice none 0 0]) (j := 0) (show 3 ≤ 3 from by decide) (x' := (⟨a1, 0, ([] : List (S56))⟩ : S52)) (k52_mkM _ _ _ (⟨a1, 0, ([] : List (S56))⟩ : S52) (Kd.R_nil _ _ _ _ _)) (fun _ hk => hk) (fun k_ hk_ => hk_.elim)
             have hx29_0 := hcc_ 0 _ rfl
             simp only [show (k52).sz = 3 from rfl, Nat.add_zero] at hx29_0
             have hf29_0 := hfr_ 0
             simp only [show (k52).sz = 3 from rfl, Nat.add_zero] at hf29_0
             have hx29_1 := hcc_ 1 _ rfl
             simp only [show (k52).sz = 3 from rfl, Nat.add_zero] at hx29_1
             have hf29_1 := hfr_ 1
             simp only [show (k52).sz = 3 from rfl, Nat.add_zero] at hf29_1
             have hx29_2 := hcc_ 2 _ rfl
             simp only [show (k52).sz = 3 from rfl, Nat.add_zero] at hx29_2
             have hf29_2 := hfr_ 2
             simp only [show (k52).sz = 3 from rfl, Nat.add_zero] at hf29_2
             have hp0_ := eq_true HQi.out.1
             have hq0_ := eq_true (show x9_1 < (y336.length : Int) from by have := HQi.out; have := HYL.out; omega)
             clear hcl_ hcc_ hfr_
             have HIN := Aside0.mk (show y347 = (t319.take x9_1.toNat ++ (⟨(⟨#[]⟩ : ByteArray), 0, ([] : List (S56))⟩ : S52) :: t319.drop x9_1.toNat).set x9_1.toNat ⟨a1, 0, ([] : List (S56))⟩ from by rw [Ny347.out, Ny336.out]; exact insP_set _ _ _ _ (by have := HQi.out; omega))
             go_wp2_with ((with_reducible refine gate_store (t := 52) (p := 53) rfl ?_); go_loud (refine store_event (t := 52) (p := 53) (v := ?vo_) (w1 := (((w25c.setCell ⟨go38, x9_1.toNat * 3, none⟩ (.string a1)).setCell ⟨go38, x9_1.toNat * 3 + 1, none⟩ (.int .i64 0)).setCell ⟨go38, x9_1.toNat * 3 + 2, none⟩ (.slice none 0 0))) ?hg ?ho ?hn ?hr ?_; (case ho => rfl); (case hg => rfl); (case hn => rfl); (case hr => first | (go_simp; done) | (go_simp; rfl)); intro w30s hw; have HO279s := Aside0.mk (show Kd.S k52 52 w30s w.heap.size (fun _ => True) (.slice (some ⟨go38, 0, none⟩) y336.length co41) y347 from (by rw [hw, HIN.out]; exact HP29.1)); have HB := Aside0.mk ((by rw [hw]; exact below_set (below_set (below_set (HBn.out) GB38.out) GB38.out) GB38.out : Below w.heap.size w w30s)); clear HP29 hw HBn HH))
             go_meet
             case rel => exact ⟨_, (y347), (x9_1), (by first | rfl | (simp; done) | (simp [*]; done)), H', ⟨by have := HK1.out; first | omega | exact Nat.le_refl _⟩, ⟨by (with_reducible repeat (first | apply Kd.S_alloc | apply Kd.S_drewN | apply Kd.S_drew)); exact HO279s.out⟩, ⟨by repeat (first | (with_reducible first | exact HB.out | apply below_alloc | apply pw_below_drewN | apply below_drew1) | exact HB.out)⟩⟩
            ·rw [if_neg c37] at H
             exact absurd H (by simp)
           ·rw [if_neg c36] at H
            exact absurd H (by simp)
          ·rw [if_neg c35] at H
           exact absurd H (by simp)
         ·rw [if_neg c34] at H
          exact absurd H (by simp)
        ·rw [if_neg c33] at H
         exact absurd H (by simp)
       ·rw [if_neg c31] at H
        exact absurd H (by simp)
   ·rw [if_neg c13] at H
    have c13b0 : decide (t322 < 0) = false := decide_eq_false c13
    clear c13
    (first | rw [c13b0] | (simp only [i64_w, i32_w]; rw [c13b0]) | skip)
    have H' := Aside0.mk H
    clear H
    go_wp2
    repeat (go_quiet (fail); try go_wp2)
    go_meet
    case rel => exact ⟨_, (t319), (t322), (by first | rfl | (simp; done) | (simp [*]; done)), H', ⟨by first | omega | exact Nat.le_refl _⟩, ⟨by (with_reducible repeat (first | apply Kd.S_alloc | apply Kd.S_drewN | apply Kd.S_drew)); exact HO321.out⟩, ⟨by repeat (first | (with_reducible first | exact HB.out | apply below_alloc | apply pw_below_drewN | apply below_drew1) | exact HB.out)⟩⟩
  case rest =>
   clear HC8
   try clear c1
   try clear c2
   try clear p2
   try clear q2
   try clear hx2
   try clear c3
   try clear p3
   try clear q3
   try clear hx3
   try clear hf3
   try clear c4
   try clear q4
   try clear hx4
   try clear hf4
   try clear c5
   try clear p6
   try clear c13
   try clear c13b0
   try clear c14
   try clear c14b0
   try clear c15
   try clear c15b0
   try clear c16
   try clear c16b0
   try clear c17
   try clear c19
   try clear c19b0
   try clear c19b1
   try clear c20
   try clear c20b0
   try clear c20b1
   try clear c21
   try clear c21b0
   try clear c22
   try clear c22b0
   try clear c22b1
   try clear c23
   try clear c23b0
   try clear c24
   try clear p24
   try clear q24
   try clear hx24
   try clear hf24
   try clear c26
   try clear q26
   try clear c28
   try clear q28
   try clear c29
   try clear hx29
   try clear hf29
   try clear c31
   try clear c32
   try clear p32
   try clear q32
   try clear hx32
   try clear c33
   try clear c33b0
   try clear c33b1
   try clear c34
   try clear c34b0
   try clear c34b1
   try clear c35
   try clear c35b0
   try clear c35b1
   try clear c36
   try clear c36b0
   try clear c36b1
   try clear c37
   try clear c37b0
   try clear c38
   try clear p38
   try clear q38
   try clear hx38
   try clear hf38
   try clear c40
   try clear q40
   try clear c42
   try clear q42
   try clear c43
   try clear hx43
   try clear hf43
   try clear hx24_0
   try clear hx24_1
   try clear hx24_2
   try clear hx29_0
   try clear hx29_1
   try clear hx29_2
   try clear hx323_0
   try clear hx323_1
   try clear hx323_2
   try clear hx38_0
   try clear hx38_1
   try clear hx38_2
   try clear hx43_0
   try clear hx43_1
   try clear hx43_2
   try clear p2
   try clear p24
   try clear p323
   try clear p38
   try clear q026
   try clear q028
   try clear q040
   try clear q042
   try clear q24
   try clear q26
   try clear q28
   try clear q323
   try clear q38
   try clear q40
   try clear q42
   obtain ⟨kq, x8_7, x9_7, rfl, HA, HJ7, HO_8, HB⟩ := hcut
   cases kq with
   | zero => exact absurd HA.out (by simp [impl_Switch.j1])
   | succ kj7 =>
    have H := HA.out
    clear HA
    simp only [impl_Switch.j1] at H
    by_cases c45 : 0 ≤ x9_7
    ·rw [if_pos c45] at H
     have c45b0 : decide (0 ≤ x9_7) = true := decide_eq_true c45
     clear c45
     by_cases c46 : x9_7 < (x8_7.length : Int)
     ·rw [if_pos c46] at H
      have c46b0 : decide (x9_7 < (x8_7.length : Int)) = true := decide_eq_true c46
      clear c46
      have HC47 := Aside0.mk H
      clear H
      obtain ⟨Ao48, co48, eo48⟩ := Kd.S_slice HO_8.out
      subst eo48
      have p348 : 0 ≤ (x9_7 : Int) := of_decide_eq_true (by first | (with_reducible assumption) | assumption)
      have q348 : x9_7 < (x8_7.length : Int) := of_decide_eq_true (by first | (with_reducible assumption) | assumption)
      obtain ⟨ad348, A348_2, c348_2, e348, hx348_0, hx348_1, hx348_2, hl348_2, hi348_2⟩ := at_T52 (Kd.S_reads' HO_8.out).2.2 x9_7 p348 q348
      cases e348
      obtain ⟨ce348, hce348, hMe348, hcc348⟩ := Kd.S_get HO_8.out z52 x9_7 p348 (by first | exact q348 | exact of_decide_eq_true (by first | (with_reducible assumption) | assumption) | (have e_ := (Kd.S_reads' HO_8.out).1; omega))
      obtain ⟨ve348_2, rfl, ge348_2⟩ := k52_openM hMe348
      have hv348_2 := hcc348 2 _ rfl
      rw [add_field _ _ 2 (by omega)] at hv348_2
      replace hv348_2 := Option.some.inj (hv348_2.symm.trans hx348_2)
      rw [hv348_2] at ge348_2
      have HL348_2 := Aside0.mk (show Kd.R k56 56 _ _ _ _ ((rd_T52 x8_7 x9_7).f2) from ge348_2)
      clear hv348_2 ge348_2
      have HX348_2 := Aside0.mk hx348_2
      clear hcc348 hce348
      have HR348_2 := Aside0.mk hi348_2
      have HC348_2 := Aside0.mk hl348_2
      clear hi348_2 hl348_2
      replace p348 := eq_true p348
      replace q348 := eq_true q348
      try (have eb_ := Option.some.inj (hx348_2.symm.trans hx323_2); injection eb_ with ea_ en_ ec_; subst ea_; subst ec_; clear en_)
      try (have eb_ := Option.some.inj (hx348_2.symm.trans hx323_2); injection eb_ with ea_ en_ ec_; subst ea_; subst ec_; clear en_)
      go_upto_region 13 with (fail)
      repeat (go_quiet (fail); go_upto_region 13 with (fail))
      go_cut [69] (fun v69 wc => ∃ (kq : Nat) (x69_46 : Bool), v69 = .bool x69_46 ∧ Aside0 (impl_Switch.j2 l0 kq a2 x8_7 x9_7 x69_46 = some (r1, r2)) ∧ Aside0 (kq ≤ kj7) ∧ Aside0 (Kd.S k52 52 wc w.heap.size (fun _ => True) (.slice (some ad348) x8_7.length co48) x8_7) ∧ Aside0 (Kd.C k56 wc A348_2 ((rd_T52 x8_7 x9_7).f2).length ((rd_T52 x8_7 x9_7).f2)) ∧ Aside0 (Below w.heap.size w wc))
      case first =>
       have H := HC47.out
       clear HC47
       by_cases c49 : ((rd_T52 x8_7 x9_7).f1) = 0
       ·rw [if_pos c49] at H
        have c49b0 : (((rd_T52 x8_7 x9_7).f1) == 0) = true := beq_iff_eq.mpr c49
        have c49b1 : (((rd_T52 x8_7 x9_7).f1) != 0) = false := bne_eq_false_iff_eq.mpr c49
        clear c49
        (first | rw [c49b0] | (simp only [i64_w, i32_w]; rw [c49b0]) | skip)
        have H' := Aside0.mk H
        clear H
        have p349 : 0 ≤ (x9_7 : Int) := of_decide_eq_true (by first | (with_reducible assumption) | assumption)
        have q349 : x9_7 < (x8_7.length : Int) := of_decide_eq_true (by first | (with_reducible assumption) | assumption)
        obtain ⟨ad349, A349_2, c349_2, e349, hx349_0, hx349_1, hx349_2, hl349_2, hi349_2⟩ := at_T52 (Kd.S_reads' HO_8.out).2.2 x9_7 p349 q349
        obtain rfl : ad348 = ad349 := (by injection e349)
        obtain ⟨ce349, hce349, hMe349, hcc349⟩ := Kd.S_get HO_8.out z52 x9_7 p349 (by first | exact q349 | exact of_decide_eq_true (by first | (with_reducible assumption) | assumption) | (have e_ := (Kd.S_reads' HO_8.out).1; omega))
        obtain ⟨ve349_2, rfl, ge349_2⟩ := k52_openM hMe349
        have hv349_2 := hcc349 2 _ rfl
        rw [add_field _ _ 2 (by omega)] at hv349_2
        replace hv349_2 := Option.some.inj (hv349_2.symm.trans hx349_2)
        rw [hv349_2] at ge349_2
        have HL349_2 := Aside0.mk (show Kd.R k56 56 _ _ _ _ ((rd_T52 x8_7 x9_7).f2) from ge349_2)
        clear hv349_2 ge349_2
        have HX349_2 := Aside0.mk hx349_2
        clear hcc349 hce349
        have HR349_2 := Aside0.mk hi349_2
        have HC349_2 := Aside0.mk hl349_2
        clear hi349_2 hl349_2
        replace p349 := eq_true p349
        replace q349 := eq_true q349
        try (have eb_ := Option.some.inj (hx349_2.symm.trans hx323_2); injection eb_ with ea_ en_ ec_; subst ea_; subst ec_; clear en_)
        try (have eb_ := Option.some.inj (hx349_2.symm.trans hx323_2); injection eb_ with ea_ en_ ec_; subst ea_; subst ec_; clear en_)
        try (have eb_ := Option.some.inj (hx349_2.symm.trans hx348_2); injection eb_ with ea_ en_ ec_; subst ea_; subst ec_; clear en_)
        go_wp2
        repeat (go_quiet (fail); try go_wp2)
        go_meet
        case rel => exact ⟨_, (false), (by first | rfl | (simp; done) | (simp [*]; done)), H', ⟨by have := HJ7.out; first | omega | exact Nat.le_refl _⟩, ⟨by (with_reducible repeat (first | apply Kd.S_alloc | apply Kd.S_drewN | apply Kd.S_drew)); exact HO_8.out⟩, ⟨by repeat (first | (with_reducible exact HR348_2.out) | (with_reducible refine Kd.C_alloc ?_ _) | (with_reducible refine Kd.C_drewN ?_ _) | (with_reducible refine Kd.C_drew ?_) | exact HR348_2.out)⟩, ⟨by repeat (first | (with_reducible first | exact HB.out | apply below_alloc | apply pw_below_drewN | apply below_drew1) | exact HB.out)⟩⟩
       ·rw [if_neg c49] at H
        have c49b0 : (((rd_T52 x8_7 x9_7).f1) == 0) = false := beq_eq_false_iff_ne.mpr c49
        have c49b1 : (((rd_T52 x8_7 x9_7).f1) != 0) = true := bne_iff_ne.mpr c49
        (first | rw [c49b0] | (simp only [i64_w, i32_w]; rw [c49b0]) | skip)
        replace H := Option.bind_eq_some_iff.mp H
        obtain ⟨t351, A500, H⟩ := H
        replace H : (impl_Switch.j2 l0 kj7 a2 x8_7 x9_7 (t351.toList == a2.toList)) = some (r1, r2) := H
        have A50 := Aside0.mk A500
        clear A500
        have H' := Aside0.mk H
        clear H
        have p349 : 0 ≤ (x9_7 : Int) := of_decide_eq_true (by first | (with_reducible assumption) | assumption)
        have q349 : x9_7 < (x8_7.length : Int) := of_decide_eq_true (by first | (with_reducible assumption) | assumption)
        obtain ⟨ad349, A349_2, c349_2, e349, hx349_0, hx349_1, hx349_2, hl349_2, hi349_2⟩ := at_T52 (Kd.S_reads' HO_8.out).2.2 x9_7 p349 q349
        obtain rfl : ad348 = ad349 := (by injection e349)
        obtain ⟨ce349, hce349, hMe349, hcc349⟩ := Kd.S_get HO_8.out z52 x9_7 p349 (by first | exact q349 | exact of_decide_eq_true (by first | (with_reducible assumption) | assumption) | (have e_ := (Kd.S_reads' HO_8.out).1; omega))
        obtain ⟨ve349_2, rfl, ge349_2⟩ := k52_openM hMe349
        have hv349_2 := hcc349 2 _ rfl
        rw [add_field _ _ 2 (by omega)] at hv349_2
        replace hv349_2 := Option.some.inj (hv349_2.symm.trans hx349_2)
        rw [hv349_2] at ge349_2
        have HL349_2 := Aside0.mk (show Kd.R k56 56 _ _ _ _ ((rd_T52 x8_7 x9_7).f2) from ge349_2)
        clear hv349_2 ge349_2
        have HX349_2 := Aside0.mk hx349_2
        clear hcc349 hce349
        have HR349_2 := Aside0.mk hi349_2
        have HC349_2 := Aside0.mk hl349_2
        clear hi349_2 hl349_2
        replace p349 := eq_true p349
        replace q349 := eq_true q349
        try (have eb_ := Option.some.inj (hx349_2.symm.trans hx323_2); injection eb_ with ea_ en_ ec_; subst ea_; subst ec_; clear en_)
        try (have eb_ := Option.some.inj (hx349_2.symm.trans hx323_2); injection eb_ with ea_ en_ ec_; subst ea_; subst ec_; clear en_)
        try (have eb_ := Option.some.inj (hx349_2.symm.trans hx348_2); injection eb_ with ea_ en_ ec_; subst ea_; subst ec_; clear en_)
        try (have eb_ := Option.some.inj (hx349_2.symm.trans hx349_2); injection eb_ with ea_ en_ ec_; subst ea_; subst ec_; clear en_)
        have p350 : 0 ≤ (x9_7 : Int) := of_decide_eq_true (by first | (with_reducible assumption) | assumption)
        have q350 : x9_7 < (x8_7.length : Int) := of_decide_eq_true (by first | (with_reducible assumption) | assumption)
        obtain ⟨ad350, A350_2, c350_2, e350, hx350_0, hx350_1, hx350_2, hl350_2, hi350_2⟩ := at_T52 (Kd.S_reads' HO_8.out).2.2 x9_7 p350 q350
        obtain rfl : ad348 = ad350 := (by injection e350)
        obtain ⟨ce350, hce350, hMe350, hcc350⟩ := Kd.S_get HO_8.out z52 x9_7 p350 (by first | exact q350 | exact of_decide_eq_true (by first | (with_reducible assumption) | assumption) | (have e_ := (Kd.S_reads' HO_8.out).1; omega))
        obtain ⟨ve350_2, rfl, ge350_2⟩ := k52_openM hMe350
        have hv350_2 := hcc350 2 _ rfl
        rw [add_field _ _ 2 (by omega)] at hv350_2
        replace hv350_2 := Option.some.inj (hv350_2.symm.trans hx350_2)
        rw [hv350_2] at ge350_2
        have HL350_2 := Aside0.mk (show Kd.R k56 56 _ _ _ _ ((rd_T52 x8_7 x9_7).f2) from ge350_2)
        clear hv350_2 ge350_2
        have HX350_2 := Aside0.mk hx350_2
        clear hcc350 hce350
        have HR350_2 := Aside0.mk hi350_2
        have HC350_2 := Aside0.mk hl350_2
        clear hi350_2 hl350_2
        replace p350 := eq_true p350
        replace q350 := eq_true q350
        try (have eb_ := Option.some.inj (hx350_2.symm.trans hx323_2); injection eb_ with ea_ en_ ec_; subst ea_; subst ec_; clear en_)
        try (have eb_ := Option.some.inj (hx350_2.symm.trans hx323_2); injection eb_ with ea_ en_ ec_; subst ea_; subst ec_; clear en_)
        try (have eb_ := Option.some.inj (hx350_2.symm.trans hx348_2); injection eb_ with ea_ en_ ec_; subst ea_; subst ec_; clear en_)
        try (have eb_ := Option.some.inj (hx350_2.symm.trans hx349_2); injection eb_ with ea_ en_ ec_; subst ea_; subst ec_; clear en_)
        try (have eb_ := Option.some.inj (hx350_2.symm.trans hx349_2); injection eb_ with ea_ en_ ec_; subst ea_; subst ec_; clear en_)
        try (have eb_ := Option.some.inj (hx349_2.symm.trans hx350_2); injection eb_ with ea_ en_ ec_; subst ea_; subst ec_; clear en_)
        try (have eb_ := Option.some.inj (hx349_2.symm.trans ((HB.out.cell (World.block_lt_of_cell? w _ hw348_2)).trans hw348_2)); injection eb_ with ea_ en_ ec_; subst ea_; subst ec_; clear en_)
        go_wp2_with (first | (go_at_call 40; (with_reducible refine (impl_current.calls kj7 ((rd_T52 x8_7 x9_7).f0) ((rd_T52 x8_7 x9_7).f1) _ _ ((rd_T52 x8_7 x9_7).f2) t351 _ ?side1 ?side2 A50.out).mono ?_); (case side1 => repeat (first | exact (by repeat (first | (with_reducible exact HR350_2.out) | (with_reducible refine Kd.C_alloc ?_ _) | (with_reducible refine Kd.C_drewN ?_ _) | (with_reducible refine Kd.C_drew ?_) | exact HR350_2.out)) | (with_reducible refine Kd.C_alloc ?_ _) | (with_reducible refine Kd.C_drewN ?_ _) | (with_reducible refine Kd.C_drew ?_))); (case side2 => exact HC350_2.out); rintro e w51 ⟨rfl, hb⟩; have n0_ := Aside0.mk (Kd.S_below (by (with_reducible repeat (first | apply Kd.S_alloc | apply Kd.S_drewN | apply Kd.S_drew)); exact HO_8.out) hb); have n1_ := Aside0.mk (Kd.R_below (by (with_reducible repeat (first | apply Kd.R_alloc | apply Kd.R_drewN | apply Kd.R_drew)); exact HL348_2.out) hb); have n2_ := Aside0.mk (Kd.R_below (by (with_reducible repeat (first | apply Kd.R_alloc | apply Kd.R_drewN | apply Kd.R_drew)); exact HL349_2.out) hb); have n3_ := Aside0.mk (Kd.R_below (by (with_reducible repeat (first | apply Kd.R_alloc | apply Kd.R_drewN | apply Kd.R_drew)); exact HL350_2.out) hb); have n4_ := Aside0.mk (Kd.C_below (by repeat (first | (with_reducible exact HR348_2.out) | (with_reducible refine Kd.C_alloc ?_ _) | (with_reducible refine Kd.C_drewN ?_ _) | (with_reducible refine Kd.C_drew ?_) | exact HR348_2.out)) hb); have n5_ := Aside0.mk (pw_cell_below hb HX348_2.out); have n6_ := Aside0.mk (Kd.C_below (by repeat (first | (with_reducible exact HR349_2.out) | (with_reducible refine Kd.C_alloc ?_ _) | (with_reducible refine Kd.C_drewN ?_ _) | (with_reducible refine Kd.C_drew ?_) | exact HR349_2.out)) hb); have n7_ := Aside0.mk (pw_cell_below hb HX349_2.out); have n8_ := Aside0.mk (Kd.C_below (by repeat (first | (with_reducible exact HR350_2.out) | (with_reducible refine Kd.C_alloc ?_ _) | (with_reducible refine Kd.C_drewN ?_ _) | (with_reducible refine Kd.C_drew ?_) | exact HR350_2.out)) hb); have n9_ := Aside0.mk (pw_cell_below hb HX350_2.out); have n10_ := Aside0.mk (below_step qB hb); clear HO_8; clear HL348_2; clear HL349_2; clear HL350_2; clear HR348_2; clear HX348_2; clear HR349_2; clear HX349_2; clear HR350_2; clear HX350_2; clear HB; have HO_8 := n0_; have HL348_2 := n1_; have HL349_2 := n2_; have HL350_2 := n3_; have HR348_2 := n4_; have HX348_2 := n5_; have HR349_2 := n6_; have HX349_2 := n7_; have HR350_2 := n8_; have HX350_2 := n9_; have HB := n10_; clear n0_ n1_ n2_ n3_ n4_ n5_ n6_ n7_ n8_ n9_ n10_; (try clear hb); (try clear hb2); (try clear hk); (try clear hi)))
        go_meet
        case rel => exact ⟨_, ((t351.toList == a2.toList)), (by first | rfl | (simp; done) | (simp [*]; done)), H', ⟨by have := HJ7.out; first | omega | exact Nat.le_refl _⟩, ⟨by (with_reducible repeat (first | apply Kd.S_alloc | apply Kd.S_drewN | apply Kd.S_drew)); exact HO_8.out⟩, ⟨by repeat (first | (with_reducible exact HR348_2.out) | (with_reducible refine Kd.C_alloc ?_ _) | (with_reducible refine Kd.C_drewN ?_ _) | (with_reducible refine Kd.C_drew ?_) | exact HR348_2.out)⟩, ⟨by repeat (first | (with_reducible first | exact HB.out | apply below_alloc | apply pw_below_drewN | apply below_drew1) | exact HB.out)⟩⟩
      case rest =>
       clear HC47
       try clear c1
       try clear c2
       try clear p2
       try clear q2
       try clear hx2
       try clear c3
       try clear p3
       try clear q3
       try clear hx3
       try clear hf3
       try clear c4
       try clear q4
       try clear hx4
       try clear hf4
       try clear c5
       try clear p6
       try clear c13
       try clear c13b0
       try clear c14
       try clear c14b0
       try clear c15
       try clear c15b0
       try clear c16
       try clear c16b0
       try clear c17
       try clear c19
       try clear c19b0
       try clear c19b1
       try clear c20
       try clear c20b0
       try clear c20b1
       try clear c21
       try clear c21b0
       try clear c22
       try clear c22b0
       try clear c22b1
       try clear c23
       try clear c23b0
       try clear c24
       try clear p24
       try clear q24
       try clear hx24
       try clear hf24
       try clear c26
       try clear q26
       try clear c28
       try clear q28
       try clear c29
       try clear hx29
       try clear hf29
       try clear c31
       try clear c32
       try clear p32
       try clear q32
       try clear hx32
       try clear c33
       try clear c33b0
       try clear c33b1
       try clear c34
       try clear c34b0
       try clear c34b1
       try clear p34
       try clear q34
       try clear hx34
       try clear c35
       try clear c35b0
       try clear c35b1
       try clear p35
       try clear q35
       try clear hx35
       try clear c36
       try clear c36b0
       try clear c36b1
       try clear c37
       try clear c37b0
       try clear c38
       try clear p38
       try clear q38
       try clear hx38
       try clear hf38
       try clear c40
       try clear q40
       try clear c42
       try clear q42
       try clear c43
       try clear hx43
       try clear hf43
       try clear c45
       try clear c45b0
       try clear c46
       try clear c46b0
       try clear c49
       try clear c49b0
       try clear c49b1
       try clear hx24_0
       try clear hx24_1
       try clear hx24_2
       try clear hx29_0
       try clear hx29_1
       try clear hx29_2
       try clear hx323_0
       try clear hx323_1
       try clear hx323_2
       try clear hx348_0
       try clear hx348_1
       try clear hx348_2
       try clear hx349_0
       try clear hx349_1
       try clear hx349_2
       try clear hx350_0
       try clear hx350_1
       try clear hx350_2
       try clear hx38_0
       try clear hx38_1
       try clear hx38_2
       try clear hx43_0
       try clear hx43_1
       try clear hx43_2
       try clear p2
       try clear p24
       try clear p3
       try clear p32
       try clear p323
       try clear p348
       try clear p349
       try clear p350
       try clear p38
       try clear p6
       try clear q026
       try clear q028
       try clear q040
       try clear q042
       try clear q2
       try clear q24
       try clear q26
       try clear q28
       try clear q3
       try clear q32
       try clear q323
       try clear q348
       try clear q349
       try clear q350
       try clear q38
       try clear q4
       try clear q40
       try clear q42
       obtain ⟨kq, x69_46, rfl, HA, HJ46, HO_8, HR348_2, HB⟩ := hcut
       cases kq with
       | zero => exact absurd HA.out (by simp [impl_Switch.j2])
       | succ kj46 =>
        have H := HA.out
        clear HA
        simp only [impl_Switch.j2] at H
        by_cases c52 : x69_46 = true
        ·subst c52
         have H1 : (some (x8_7, true)) = some (r1, r2) := by rw [if_pos rfl] at H; exact H
         clear H
         have H := H1
         clear H1
         simp only [Option.some.injEq, Prod.mk.injEq] at H
         obtain ⟨rfl, rfl⟩ := H
         go_wp2
         repeat (go_quiet (fail); try go_wp2)
         go_ret2
         exact ⟨_, by first | rfl | (simp [errW_none, errW_some] <;> rfl) | (simp [*, errW_none, errW_some] <;> rfl), by (with_reducible repeat (first | apply Kd.S_alloc | apply Kd.S_drewN | apply Kd.S_drew)); exact HO_8.out, by repeat (first | (with_reducible first | exact HB.out | apply below_alloc | apply pw_below_drewN | apply below_drew1) | exact HB.out)⟩
        ·replace c52 := Bool.eq_false_iff.mpr c52
         subst c52
         have H1 : (if 0 ≤ x9_7 then (if x9_7 < (x8_7.length : Int) then (if (((rd_T52 x8_7 x9_7).f2).length : Int) > 0 then (if 0 ≤ (wrap64 ((((rd_T52 x8_7 x9_7).f2).length : Int) - 1)) then (if (wrap64 ((((rd_T52 x8_7 x9_7).f2).length : Int) - 1)) < (((rd_T52 x8_7 x9_7).f2).length : Int) then (impl_Switch.j3 l0 kj46 a2 x8_7 x9_7 (wrap64 (((rd_T56 ((rd_T52 x8_7 x9_7).f2) (wrap64 ((((rd_T52 x8_7 x9_7).f2).length : Int) - 1))).f0) + 1))) else (none)) else (none)) else (impl_Switch.j3 l0 kj46 a2 x8_7 x9_7 1)) else (none)) else (none)) = some (r1, r2) := by rw [if_neg (show ¬ (false = true) by decide)] at H; exact H
         clear H
         have H := H1
         clear H1
         by_cases c53 : 0 ≤ x9_7
         ·rw [if_pos c53] at H
          have c53b0 : decide (0 ≤ x9_7) = true := decide_eq_true c53
          clear c53
          by_cases c54 : x9_7 < (x8_7.length : Int)
          ·rw [if_pos c54] at H
           have c54b0 : decide (x9_7 < (x8_7.length : Int)) = true := decide_eq_true c54
           clear c54
           have HC55 := Aside0.mk H
           clear H
           have p352 : 0 ≤ (x9_7 : Int) := of_decide_eq_true (by first | (with_reducible assumption) | assumption)
           have q352 : x9_7 < (x8_7.length : Int) := of_decide_eq_true (by first | (with_reducible assumption) | assumption)
           obtain ⟨ad352, A352_2, c352_2, e352, hx352_0, hx352_1, hx352_2, hl352_2, hi352_2⟩ := at_T52 (Kd.S_reads' HO_8.out).2.2 x9_7 p352 q352
           obtain rfl : ad348 = ad352 := (by injection e352)
           obtain ⟨ce352, hce352, hMe352, hcc352⟩ := Kd.S_get HO_8.out z52 x9_7 p352 (by first | exact q352 | exact of_decide_eq_true (by first | (with_reducible assumption) | assumption) | (have e_ := (Kd.S_reads' HO_8.out).1; omega))
           obtain ⟨ve352_2, rfl, ge352_2⟩ := k52_openM hMe352
           have hv352_2 := hcc352 2 _ rfl
           rw [add_field _ _ 2 (by omega)] at hv352_2
           replace hv352_2 := Option.some.inj (hv352_2.symm.trans hx352_2)
           rw [hv352_2] at ge352_2
           have HL352_2 := Aside0.mk (show Kd.R k56 56 _ _ _ _ ((rd_T52 x8_7 x9_7).f2) from ge352_2)
           clear hv352_2 ge352_2
           have HX352_2 := Aside0.mk hx352_2
           clear hcc352 hce352
           have HR352_2 := Aside0.mk hi352_2
           have HC352_2 := Aside0.mk hl352_2
           clear hi352_2 hl352_2
           replace p352 := eq_true p352
           replace q352 := eq_true q352
           try (have eb_ := Option.some.inj (hx352_2.symm.trans hx323_2); injection eb_ with ea_ en_ ec_; subst ea_; subst ec_; clear en_)
           try (have eb_ := Option.some.inj (hx352_2.symm.trans hx323_2); injection eb_ with ea_ en_ ec_; subst ea_; subst ec_; clear en_)
           try (have eb_ := Option.some.inj (hx352_2.symm.trans hx348_2); injection eb_ with ea_ en_ ec_; subst ea_; subst ec_; clear en_)
           try (have eb_ := Option.some.inj (hx352_2.symm.trans hx349_2); injection eb_ with ea_ en_ ec_; subst ea_; subst ec_; clear en_)
           try (have eb_ := Option.some.inj (hx352_2.symm.trans hx349_2); injection eb_ with ea_ en_ ec_; subst ea_; subst ec_; clear en_)
           try (have eb_ := Option.some.inj (hx352_2.symm.trans hx350_2); injection eb_ with ea_ en_ ec_; subst ea_; subst ec_; clear en_)
           go_upto_if 76 with (fail)
           repeat (go_quiet (fail); go_upto_if 76 with (fail))
           go_cut [11] (fun v11 wc => ∃ (kq : Nat) (x11_54 : Int), v11 = .int .i64 x11_54 ∧ Aside0 (impl_Switch.j3 l0 kq a2 x8_7 x9_7 x11_54 = some (r1, r2)) ∧ Aside0 (kq ≤ kj46) ∧ Aside0 (Kd.S k52 52 wc w.heap.size (fun _ => True) (.slice (some ad348) x8_7.length co48) x8_7) ∧ Aside0 (Kd.C k56 wc A348_2 ((rd_T52 x8_7 x9_7).f2).length ((rd_T52 x8_7 x9_7).f2)) ∧ Aside0 (Kd.C k56 wc A352_2 ((rd_T52 x8_7 x9_7).f2).length ((rd_T52 x8_7 x9_7).f2)) ∧ Aside0 (Below w.heap.size w wc))
           case first =>
            have H := HC55.out
            clear HC55
            by_cases c56 : (((rd_T52 x8_7 x9_7).f2).length : Int) > 0
            ·rw [if_pos c56] at H
             have c56b0 : decide (0 < (((rd_T52 x8_7 x9_7).f2).length : Int)) = true := decide_eq_true c56
             have c56b1 : decide (0 < ((rd_T52 x8_7 x9_7).f2).length) = true := decide_eq_true (by omega)
             clear c56
             (first | rw [c56b1] | rw [c56b0] | skip)
             obtain ⟨ji57, hji57⟩ : ∃ j_ : Int, (wrap64 ((((rd_T52 x8_7 x9_7).f2).length : Int) - 1)) = j_ := ⟨_, rfl⟩
             replace H : (if 0 ≤ (ji57) then (if (ji57) < (((rd_T52 x8_7 x9_7).f2).length : Int) then (impl_Switch.j3 l0 kj46 a2 x8_7 x9_7 (wrap64 (((rd_T56 ((rd_T52 x8_7 x9_7).f2) (ji57)).f0) + 1))) else (none)) else (none)) = some (r1, r2) := by first | (rw [hji57] at H; exact H) | (simp only [hji57] at H ⊢; exact H)
             have hji57w : (IntKind.i64.wrap ((((rd_T52 x8_7 x9_7).f2).length : Int) - 1)) = ji57 := (i64_w _).trans hji57
             by_cases c58 : 0 ≤ (ji57)
             ·rw [if_pos c58] at H
              have c58b0 : decide (0 ≤ (ji57)) = true := decide_eq_true c58
              clear c58
              by_cases c59 : (ji57) < (((rd_T52 x8_7 x9_7).f2).length : Int)
              ·rw [if_pos c59] at H
               have c59b0 : decide ((ji57) < (((rd_T52 x8_7 x9_7).f2).length : Int)) = true := decide_eq_true c59
               clear c59
               have H' := Aside0.mk H
               clear H
               have p353 : 0 ≤ (x9_7 : Int) := of_decide_eq_true (by first | (with_reducible assumption) | assumption)
               have q353 : x9_7 < (x8_7.length : Int) := of_decide_eq_true (by first | (with_reducible assumption) | assumption)
               obtain ⟨ad353, A353_2, c353_2, e353, hx353_0, hx353_1, hx353_2, hl353_2, hi353_2⟩ := at_T52 (Kd.S_reads' HO_8.out).2.2 x9_7 p353 q353
               obtain rfl : ad348 = ad353 := (by injection e353)
               obtain ⟨ce353, hce353, hMe353, hcc353⟩ := Kd.S_get HO_8.out z52 x9_7 p353 (by first | exact q353 | exact of_decide_eq_true (by first | (with_reducible assumption) | assumption) | (have e_ := (Kd.S_reads' HO_8.out).1; omega))
               obtain ⟨ve353_2, rfl, ge353_2⟩ := k52_openM hMe353
               have hv353_2 := hcc353 2 _ rfl
               rw [add_field _ _ 2 (by omega)] at hv353_2
               replace hv353_2 := Option.some.inj (hv353_2.symm.trans hx353_2)
               rw [hv353_2] at ge353_2
               have HL353_2 := Aside0.mk (show Kd.R k56 56 _ _ _ _ ((rd_T52 x8_7 x9_7).f2) from ge353_2)
               clear hv353_2 ge353_2
               have HX353_2 := Aside0.mk hx353_2
               clear hcc353 hce353
               have HR353_2 := Aside0.mk hi353_2
               have HC353_2 := Aside0.mk hl353_2
               clear hi353_2 hl353_2
               replace p353 := eq_true p353
               replace q353 := eq_true q353
               try (have eb_ := Option.some.inj (hx353_2.symm.trans hx323_2); injection eb_ with ea_ en_ ec_; subst ea_; subst ec_; clear en_)
               try (have eb_ := Option.some.inj (hx353_2.symm.trans hx348_2); injection eb_ with ea_ en_ ec_; subst ea_; subst ec_; clear en_)
               try (have eb_ := Option.some.inj (hx353_2.symm.trans hx349_2); injection eb_ with ea_ en_ ec_; subst ea_; subst ec_; clear en_)
               try (have eb_ := Option.some.inj (hx353_2.symm.trans hx349_2); injection eb_ with ea_ en_ ec_; subst ea_; subst ec_; clear en_)
               try (have eb_ := Option.some.inj (hx353_2.symm.trans hx350_2); injection eb_ with ea_ en_ ec_; subst ea_; subst ec_; clear en_)
               try (have eb_ := Option.some.inj (hx353_2.symm.trans hx352_2); injection eb_ with ea_ en_ ec_; subst ea_; subst ec_; clear en_)
               have p354 : 0 ≤ (x9_7 : Int) := of_decide_eq_true (by first | (with_reducible assumption) | assumption)
               have q354 : x9_7 < (x8_7.length : Int) := of_decide_eq_true (by first | (with_reducible assumption) | assumption)
               obtain ⟨ad354, A354_2, c354_2, e354, hx354_0, hx354_1, hx354_2, hl354_2, hi354_2⟩ := at_T52 (Kd.S_reads' HO_8.out).2.2 x9_7 p354 q354
               obtain rfl : ad348 = ad354 := (by injection e354)
               obtain ⟨ce354, hce354, hMe354, hcc354⟩ := Kd.S_get HO_8.out z52 x9_7 p354 (by first | exact q354 | exact of_decide_eq_true (by first | (with_reducible assumption) | assumption) | (have e_ := (Kd.S_reads' HO_8.out).1; omega))
               obtain ⟨ve354_2, rfl, ge354_2⟩ := k52_openM hMe354
               have hv354_2 := hcc354 2 _ rfl
               rw [add_field _ _ 2 (by omega)] at hv354_2
               replace hv354_2 := Option.some.inj (hv354_2.symm.trans hx354_2)
               rw [hv354_2] at ge354_2
               have HL354_2 := Aside0.mk (show Kd.R k56 56 _ _ _ _ ((rd_T52 x8_7 x9_7).f2) from ge354_2)
               clear hv354_2 ge354_2
               have HX354_2 := Aside0.mk hx354_2
               clear hcc354 hce354
               have HR354_2 := Aside0.mk hi354_2
               have HC354_2 := Aside0.mk hl354_2
               clear hi354_2 hl354_2
               replace p354 := eq_true p354
               replace q354 := eq_true q354
               try (have eb_ := Option.some.inj (hx354_2.symm.trans hx348_2); injection eb_ with ea_ en_ ec_; subst ea_; subst ec_; clear en_)
               try (have eb_ := Option.some.inj (hx354_2.symm.trans hx349_2); injection eb_ with ea_ en_ ec_; subst ea_; subst ec_; clear en_)
               try (have eb_ := Option.some.inj (hx354_2.symm.trans hx349_2); injection eb_ with ea_ en_ ec_; subst ea_; subst ec_; clear en_)
               try (have eb_ := Option.some.inj (hx354_2.symm.trans hx350_2); injection eb_ with ea_ en_ ec_; subst ea_; subst ec_; clear en_)
               try (have eb_ := Option.some.inj (hx354_2.symm.trans hx352_2); injection eb_ with ea_ en_ ec_; subst ea_; subst ec_; clear en_)
               try (have eb_ := Option.some.inj (hx354_2.symm.trans hx353_2); injection eb_ with ea_ en_ ec_; subst ea_; subst ec_; clear en_)
               try (have eb_ := Option.some.inj (hx353_2.symm.trans hx354_2); injection eb_ with ea_ en_ ec_; subst ea_; subst ec_; clear en_)
               try (have eb_ := Option.some.inj (hx353_2.symm.trans ((HB.out.cell (World.block_lt_of_cell? w _ hw348_2)).trans hw348_2)); injection eb_ with ea_ en_ ec_; subst ea_; subst ec_; clear en_)
               have p355 : 0 ≤ ((ji57) : Int) := of_decide_eq_true (by first | (with_reducible assumption) | assumption)
               have q355 : (ji57) < (((rd_T52 x8_7 x9_7).f2).length : Int) := of_decide_eq_true (by first | (with_reducible assumption) | assumption)
               obtain ⟨ad355, e355, hx355_0, hx355_1⟩ := at_T56 (by repeat (first | (with_reducible exact HR353_2.out) | (with_reducible refine Kd.C_alloc ?_ _) | (with_reducible refine Kd.C_drewN ?_ _) | (with_reducible refine Kd.C_drew ?_) | exact HR353_2.out)) (ji57) p355 q355
               cases e355
               replace p355 := eq_true p355
               replace q355 := eq_true q355
               go_wp2
               repeat (go_quiet (fail); try go_wp2)
               go_meet
               case rel => exact ⟨_, (wrap64 (((rd_T56 ((rd_T52 x8_7 x9_7).f2) (ji57)).f0) + 1)), (by first | rfl | (simp; done) | (simp only [← hji57] <;> (first | rfl | simp)) | (simp [*]; done)), H', ⟨by have := HJ7.out; have := HJ46.out; first | omega | exact Nat.le_refl _⟩, ⟨by (with_reducible repeat (first | apply Kd.S_alloc | apply Kd.S_drewN | apply Kd.S_drew)); exact HO_8.out⟩, ⟨by repeat (first | (with_reducible exact HR348_2.out) | (with_reducible refine Kd.C_alloc ?_ _) | (with_reducible refine Kd.C_drewN ?_ _) | (with_reducible refine Kd.C_drew ?_) | exact HR348_2.out)⟩, ⟨by repeat (first | (with_reducible exact HR352_2.out) | (with_reducible refine Kd.C_alloc ?_ _) | (with_reducible refine Kd.C_drewN ?_ _) | (with_reducible refine Kd.C_drew ?_) | exact HR352_2.out)⟩, ⟨by repeat (first | (with_reducible first | exact HB.out | apply below_alloc | apply pw_below_drewN | apply below_drew1) | exact HB.out)⟩⟩
              ·rw [if_neg c59] at H
               exact absurd H (by simp)
             ·rw [if_neg c58] at H
              exact absurd H (by simp)
            ·rw [if_neg c56] at H
             have c56b0 : decide (0 < (((rd_T52 x8_7 x9_7).f2).length : Int)) = false := decide_eq_false c56
             have c56b1 : decide (0 < ((rd_T52 x8_7 x9_7).f2).length) = false := decide_eq_false (by omega)
             clear c56
             (first | rw [c56b1] | rw [c56b0] | skip)
             have H' := Aside0.mk H
             clear H
             go_wp2
             repeat (go_quiet (fail); try go_wp2)
             go_meet
             case rel => exact ⟨_, (1), (by first | rfl | (simp; done) | (simp [*]; done)), H', ⟨by have := HJ7.out; have := HJ46.out; first | omega | exact Nat.le_refl _⟩, ⟨by (with_reducible repeat (first | apply Kd.S_alloc | apply Kd.S_drewN | apply Kd.S_drew)); exact HO_8.out⟩, ⟨by repeat (first | (with_reducible exact HR348_2.out) | (with_reducible refine Kd.C_alloc ?_ _) | (with_reducible refine Kd.C_drewN ?_ _) | (with_reducible refine Kd.C_drew ?_) | exact HR348_2.out)⟩, ⟨by repeat (first | (with_reducible exact HR352_2.out) | (with_reducible refine Kd.C_alloc ?_ _) | (with_reducible refine Kd.C_drewN ?_ _) | (with_reducible refine Kd.C_drew ?_) | exact HR352_2.out)⟩, ⟨by repeat (first | (with_reducible first | exact HB.out | apply below_alloc | apply pw_below_drewN | apply below_drew1) | exact HB.out)⟩⟩
           case rest =>
            clear HC55
            try clear c1
            try clear c2
            try clear p2
            try clear q2
            try clear hx2
            try clear c3
            try clear p3
            try clear q3
            try clear hx3
            try clear hf3
            try clear c4
            try clear q4
            try clear hx4
            try clear hf4
            try clear c5
            try clear p6
            try clear c13
            try clear c13b0
            try clear c14
            try clear c14b0
            try clear c15
            try clear c15b0
            try clear c16
            try clear c16b0
            try clear c17
            try clear c19
            try clear c19b0
            try clear c19b1
            try clear c20
            try clear c20b0
            try clear c20b1
            try clear c21
            try clear c21b0
            try clear c22
            try clear c22b0
            try clear c22b1
            try clear c23
            try clear c23b0
            try clear c24
            try clear p24
            try clear q24
            try clear hx24
            try clear hf24
            try clear c26
            try clear q26
            try clear c28
            try clear q28
            try clear c29
            try clear hx29
            try clear hf29
            try clear c31
            try clear c32
            try clear p32
            try clear q32
            try clear hx32
            try clear c33
            try clear c33b0
            try clear c33b1
            try clear c34
            try clear c34b0
            try clear c34b1
            try clear p34
            try clear q34
            try clear hx34
            try clear c35
            try clear c35b0
            try clear c35b1
            try clear p35
            try clear q35
            try clear hx35
            try clear c36
            try clear c36b0
            try clear c36b1
            try clear c37
            try clear c37b0
            try clear c38
            try clear p38
            try clear q38
            try clear hx38
            try clear hf38
            try clear c40
            try clear q40
            try clear c42
            try clear q42
            try clear c43
            try clear hx43
            try clear hf43
            try clear c45
            try clear c45b0
            try clear c46
            try clear c46b0
            try clear c49
            try clear c49b0
            try clear c49b1
            try clear c52
            try clear c53
            try clear c53b0
            try clear c54
            try clear c54b0
            try clear c56
            try clear c56b0
            try clear c56b1
            try clear c58
            try clear c58b0
            try clear c59
            try clear c59b0
            try clear hx24_0
            try clear hx24_1
            try clear hx24_2
            try clear hx29_0
            try clear hx29_1
            try clear hx29_2
            try clear hx323_0
            try clear hx323_1
            try clear hx323_2
            try clear hx348_0
            try clear hx348_1
            try clear hx348_2
            try clear hx349_0
            try clear hx349_1
            try clear hx349_2
            try clear hx350_0
            try clear hx350_1
            try clear hx350_2
            try clear hx352_0
            try clear hx352_1
            try clear hx352_2
            try clear hx353_0
            try clear hx353_1
            try clear hx353_2
            try clear hx354_0
            try clear hx354_1
            try clear hx354_2
            try clear hx355_0
            try clear hx355_1
            try clear hx38_0
            try clear hx38_1
            try clear hx38_2
            try clear hx43_0
            try clear hx43_1
            try clear hx43_2
            try clear p2
            try clear p24
            try clear p3
            try clear p32
            try clear p323
            try clear p34
            try clear p348
            try clear p349
            try clear p35
            try clear p350
            try clear p352
            try clear p353
            try clear p354
            try clear p355
            try clear p38
            try clear p6
            try clear q026
            try clear q028
            try clear q040
            try clear q042
            try clear q2
            try clear q24
            try clear q26
            try clear q28
            try clear q3
            try clear q32
            try clear q323
            try clear q34
            try clear q348
            try clear q349
            try clear q35
            try clear q350
            try clear q352
            try clear q353
            try clear q354
            try clear q355
            try clear q38
            try clear q4
            try clear q40
            try clear q42
            obtain ⟨kq, x11_54, rfl, HA, HJ54, HO_8, HR348_2, HR352_2, HB⟩ := hcut
            cases kq with
            | zero => exact absurd HA.out (by simp [impl_Switch.j3])
            | succ kj54 =>
             have H := HA.out
             clear HA
             simp only [impl_Switch.j3] at H
             by_cases c60 : 0 ≤ x9_7
             ·rw [if_pos c60] at H
              have c60b0 : decide (0 ≤ x9_7) = true := decide_eq_true c60
              clear c60
              by_cases c61 : x9_7 < (x8_7.length : Int)
              ·rw [if_pos c61] at H
               have c61b0 : decide (x9_7 < (x8_7.length : Int)) = true := decide_eq_true c61
               clear c61
               by_cases c62 : ((rd_T52 x8_7 x9_7).f2).length < 5864062014805
               ·rw [if_pos c62] at H
                have LMc62 := Aside0.mk c62
                clear c62
                obtain ⟨y357, hy357⟩ : ∃ y_ : List (S56), y_ = (((rd_T52 x8_7 x9_7).f2) ++ [(⟨x11_54, a2⟩ : S56)]) := ⟨_, rfl⟩
                replace H : ((some (x8_7.set (x9_7 : Int).toNat (⟨(rd_T52 x8_7 x9_7).f0, (rd_T52 x8_7 x9_7).f1, y357⟩ : S52) : List (S52))).bind fun y360 => ((some (y360.set (x9_7 : Int).toNat (⟨(rd_T52 y360 x9_7).f0, x11_54, (rd_T52 y360 x9_7).f2⟩ : S52) : List (S52))).bind fun y361 => ((impl_ProfilesOk.f kj54 y361).bind fun t362 => (if t362 = true then (some (y361, true)) else ((impl_copyProfiles.f kj54 l0).bind fun t363 => (some (t363, false))))))) = some (r1, r2) := by first | (rw [hy357]; with_reducible exact H) | (have H2_ := (Option.bind_some _ _).symm.trans H; rw [hy357]; with_reducible exact H2_) | (have H2_ := (Option.bind_some _ _).symm.trans H; with_reducible exact H2_) | with_reducible exact H | (rw [hy357]; exact H) | exact H
                have Ny357 := Aside0.mk hy357
                clear hy357
                obtain ⟨y360, hy360⟩ : ∃ y_ : List (S52), y_ = (x8_7.set (x9_7 : Int).toNat (⟨(rd_T52 x8_7 x9_7).f0, (rd_T52 x8_7 x9_7).f1, y357⟩ : S52)) := ⟨_, rfl⟩
                replace H : ((some (y360.set (x9_7 : Int).toNat (⟨(rd_T52 y360 x9_7).f0, x11_54, (rd_T52 y360 x9_7).f2⟩ : S52) : List (S52))).bind fun y361 => ((impl_ProfilesOk.f kj54 y361).bind fun t362 => (if t362 = true then (some (y361, true)) else ((impl_copyProfiles.f kj54 l0).bind fun t363 => (some (t363, false)))))) = some (r1, r2) := by first | (rw [hy360]; with_reducible exact H) | (have H2_ := (Option.bind_some _ _).symm.trans H; rw [hy360]; with_reducible exact H2_) | (have H2_ := (Option.bind_some _ _).symm.trans H; with_reducible exact H2_) | with_reducible exact H | (rw [hy360]; exact H) | exact H
                have Ny360 := Aside0.mk hy360
                clear hy360
                obtain ⟨y361, hy361⟩ : ∃ y_ : List (S52), y_ = (y360.set (x9_7 : Int).toNat (⟨(rd_T52 y360 x9_7).f0, x11_54, (rd_T52 y360 x9_7).f2⟩ : S52)) := ⟨_, rfl⟩
                replace H : ((impl_ProfilesOk.f kj54 y361).bind fun t362 => (if t362 = true then (some (y361, true)) else ((impl_copyProfiles.f kj54 l0).bind fun t363 => (some (t363, false))))) = some (r1, r2) := by first | (rw [hy361]; with_reducible exact H) | (have H2_ := (Option.bind_some _ _).symm.trans H; rw [hy361]; with_reducible exact H2_) | (have H2_ := (Option.bind_some _ _).symm.trans H; with_reducible exact H2_) | with_reducible exact H | (rw [hy361]; exact H) | exact H
                have Ny361 := Aside0.mk hy361
                clear hy361
                replace H := Option.bind_eq_some_iff.mp H
                obtain ⟨t362, A650, H⟩ := H
                replace H : (if t362 = true then (some (y361, true)) else ((impl_copyProfiles.f kj54 l0).bind fun t363 => (some (t363, false)))) = some (r1, r2) := H
                have A65 := Aside0.mk A650
                clear A650
                by_cases c66 : t362 = true
                ·subst c66
                 have H1 : (some (y361, true)) = some (r1, r2) := by rw [if_pos rfl] at H; exact H
                 clear H
                 have H := H1
                 clear H1
                 simp only [Option.some.injEq, Prod.mk.injEq] at H
                 obtain ⟨rfl, rfl⟩ := H
                 have p356 : 0 ≤ (x9_7 : Int) := of_decide_eq_true (by first | (with_reducible assumption) | assumption)
                 have q356 : x9_7 < (x8_7.length : Int) := of_decide_eq_true (by first | (with_reducible assumption) | assumption)
                 obtain ⟨ad356, A356_2, c356_2, e356, hx356_0, hx356_1, hx356_2, hl356_2, hi356_2⟩ := at_T52 (Kd.S_reads' HO_8.out).2.2 x9_7 p356 q356
                 obtain rfl : ad348 = ad356 := (by injection e356)
                 obtain ⟨ce356, hce356, hMe356, hcc356⟩ := Kd.S_get HO_8.out z52 x9_7 p356 (by first | exact q356 | exact of_decide_eq_true (by first | (with_reducible assumption) | assumption) | (have e_ := (Kd.S_reads' HO_8.out).1; omega))
                 obtain ⟨ve356_2, rfl, ge356_2⟩ := k52_openM hMe356
                 have hv356_2 := hcc356 2 _ rfl
                 rw [add_field _ _ 2 (by omega)] at hv356_2
                 replace hv356_2 := Option.some.inj (hv356_2.symm.trans hx356_2)
                 rw [hv356_2] at ge356_2
                 have HL356_2 := Aside0.mk (show Kd.R k56 56 _ _ _ _ ((rd_T52 x8_7 x9_7).f2) from ge356_2)
                 clear hv356_2 ge356_2
                 have HX356_2 := Aside0.mk hx356_2
                 clear hcc356 hce356
                 have HR356_2 := Aside0.mk hi356_2
                 have HC356_2 := Aside0.mk hl356_2
                 clear hi356_2 hl356_2
                 replace p356 := eq_true p356
                 replace q356 := eq_true q356
                 try (have eb_ := Option.some.inj (hx356_2.symm.trans hx349_2); injection eb_ with ea_ en_ ec_; subst ea_; subst ec_; clear en_)
                 try (have eb_ := Option.some.inj (hx356_2.symm.trans hx349_2); injection eb_ with ea_ en_ ec_; subst ea_; subst ec_; clear en_)
                 try (have eb_ := Option.some.inj (hx356_2.symm.trans hx350_2); injection eb_ with ea_ en_ ec_; subst ea_; subst ec_; clear en_)
                 try (have eb_ := Option.some.inj (hx356_2.symm.trans hx352_2); injection eb_ with ea_ en_ ec_; subst ea_; subst ec_; clear en_)
                 try (have eb_ := Option.some.inj (hx356_2.symm.trans hx353_2); injection eb_ with ea_ en_ ec_; subst ea_; subst ec_; clear en_)
                 try (have eb_ := Option.some.inj (hx356_2.symm.trans hx354_2); injection eb_ with ea_ en_ ec_; subst ea_; subst ec_; clear en_)
                 obtain ⟨go67, co67, eo67, gb67, gl67, cl67, HG67⟩ := Kd.S_form HO_8.out (by have h_ : (x9_7 : Int) < ((x8_7.length : Int) : Int) := of_decide_eq_true (by first | (with_reducible assumption) | assumption); have h2_ : 0 ≤ (x9_7 : Int) := (of_decide_eq_true (by first | (with_reducible assumption) | assumption)); omega)
                 (first | cases eo67 | (injection eo67 with ea_ en_ ec_; (first | subst ea_ | (injection ea_ with ea_; subst ea_)); subst ec_; clear en_))
                 have GB67 := Aside0.mk gb67
                 have GG67 := Aside0.mk HG67
                 clear gb67 gl67 HG67
                 (first | simp only [add_plain] at hx348_0 | skip)
                 (first | simp only [add_plain] at hx348_1 | skip)
                 (first | simp only [add_plain] at hx348_2 | skip)
                 (first | simp only [add_plain] at hx349_0 | skip)
                 (first | simp only [add_plain] at hx349_1 | skip)
                 (first | simp only [add_plain] at hx349_2 | skip)
                 (first | simp only [add_plain] at hx350_0 | skip)
                 (first | simp only [add_plain] at hx350_1 | skip)
                 (first | simp only [add_plain] at hx350_2 | skip)
                 (first | simp only [add_plain] at hx352_0 | skip)
                 (first | simp only [add_plain] at hx352_1 | skip)
                 (first | simp only [add_plain] at hx352_2 | skip)
                 (first | simp only [add_plain] at hx353_0 | skip)
                 (first | simp only [add_plain] at hx353_1 | skip)
                 (first | simp only [add_plain] at hx353_2 | skip)
                 (first | simp only [add_plain] at hx354_0 | skip)
                 (first | simp only [add_plain] at hx354_1 | skip)
                 (first | simp only [add_plain] at hx354_2 | skip)
                 (first | simp only [add_plain] at hx356_0 | skip)
                 (first | simp only [add_plain] at hx356_1 | skip)
                 (first | simp only [add_plain] at hx356_2 | skip)
                 obtain ⟨oki67, ce67, hcl67, hM67, hcc67, _, _, hH67⟩ := Kd.S_elem HO_8.out z52 (x9_7 : Int) (of_decide_eq_true (by first | (with_reducible assumption) | assumption)) (by have h_ : (x9_7 : Int) < ((x8_7.length : Int) : Int) := of_decide_eq_true (by first | (with_reducible assumption) | assumption); first | exact h_ | (have e_ := (Kd.S_reads' HO_8.out).1; omega) | simpa using h_)
                 obtain ⟨ve67_2, rfl, ge67_2⟩ := k52_openM hM67
                 have hv67 := hcc67 2 _ rfl
                 have hX67 := HX356_2.out
                 (try simp only [add_plain] at hX67)
                 (try simp only [Nat.add_zero] at hv67)
                 replace hv67 := Option.some.inj (hv67.symm.trans hX67)
                 subst hv67
                 clear hX67 hcc67 hcl67
                 have UU67 := Aside0.mk (show Kd.R k56 56 _ w.heap.size oki67 (.slice A356_2 ((rd_T52 x8_7 x9_7).f2).length c356_2) ((rd_T52 x8_7 x9_7).f2) from ge67_2)
                 have HH67 := Aside0.mk hH67
                 have HN67 := Aside0.mk (Kd.S_reads' HO_8.out).1
                 clear hH67 ge67_2
                 try simp only [add_plain]
                 go_wp2_with (first | ((with_reducible refine gate_builtin (b := .append) (xs := #[.tmp 95, .tmp 99]) rfl ?_); at_builtin; refine Kd.R_append k56 (w0 := w) w.heap.size rfl (.tmp 95) (.tmp 99) 50 56 (.agg #[(.int .i64 0), (.string ⟨#[]⟩)]) 24 rfl Try.underlying50 info56 rfl (by decide) (by omega) (.slice A356_2 ((rd_T52 x8_7 x9_7).f2).length c356_2) ((rd_T52 x8_7 x9_7).f2) (⟨x11_54, a2⟩ : S56) [.int .i64 x11_54, .string a2] (fun k_ => oki67 k_ ∨ ((fun _ => True)) k_ ∧ wc.heap.size ≤ k_) (fun _ => False) rfl rfl ?aP (fun _ hk => hk.elim) ?aF ?aO ?aB ?aS ?aL ?_; (case aP => exact k56_mkM _ _ _ (⟨x11_54, a2⟩ : S56)); (case aB => exact qB); (case aF => exact (fun k_ hk => .inr ⟨trivial, hk⟩)); (case aO => exact (by (with_reducible repeat (first | apply Kd.R_alloc | apply Kd.R_drewN | apply Kd.R_drew)); exact Kd.R_mono UU67.out (fun _ hk => .inl hk))); (case aS => exact (below_size qB)); (case aL => have := LMc62.out; omega); intro v358 w68 ho hb hg hat; rw [← Ny357.out] at ho; have n0_ := Aside0.mk (hb); have n1_ := Aside0.mk (Kd.H_grown (Kd.H_widen (by repeat (first | exact HH67.out | refine Kd.H_alloc ?_ _ | refine Kd.H_drewN ?_ _ | refine Kd.H_drew ?_))) hg (fun k_ e_ => .inl (UU67.out.1 k_ e_))); have n2_ := Aside0.mk (ho); clear HB; clear HH67; clear HO_8; clear UU67; clear HL356_2; have HB := n0_; have HH67 := n1_; have HO359 := n2_; clear n0_ n1_ n2_; clear ho hb hg hat; have p63 : 0 ≤ (x9_7 : Int) := of_decide_eq_true (by first | (with_reducible assumption) | assumption); have q63 : (x9_7 : Int) < ((x8_7.length : Int) : Int) := of_decide_eq_true (by first | (with_reducible assumption) | assumption); replace p63 := eq_true p63; replace q63 := eq_true q63; obtain ⟨Ao71, co71, eo71⟩ := Kd.R_slice HO359.out; subst eo71; obtain ⟨_, _, hraw69, _, _, hcc69, _⟩ := Kd.H_raw HH67.out (of_decide_eq_true (by first | (with_reducible assumption) | assumption)) (by have h_ : (x9_7 : Int) < ((x8_7.length : Int) : Int) := of_decide_eq_true (by first | (with_reducible assumption) | assumption); first | exact h_ | (have e_ := (HN67.out); omega) | simpa using h_); obtain ⟨_, hfr69⟩ := Kd.H_at HH67.out (of_decide_eq_true (by first | (with_reducible assumption) | assumption)) (by have h_ : (x9_7 : Int) < ((x8_7.length : Int) : Int) := of_decide_eq_true (by first | (with_reducible assumption) | assumption); first | exact h_ | (have e_ := (HN67.out); omega) | simpa using h_); have hx69_0 := hcc69 2 _ rfl; have hf69_0 := hfr69 2; (try rw [show (k52).sz = 3 from rfl] at hx69_0); (try rw [show (k52).sz = 3 from rfl] at hf69_0); have HP69 := Kd.S_seg0 HH67.out (of_decide_eq_true (by first | (with_reducible assumption) | assumption)) (by have h_ : (x9_7 : Int) < ((x8_7.length : Int) : Int) := of_decide_eq_true (by first | (with_reducible assumption) | assumption); first | exact h_ | (have e_ := (HN67.out); omega) | simpa using h_) (seg := [.slice Ao71 y357.length co71]) (j := 2) (show 3 ≤ 3 from by decide) (x' := (⟨(rd_T52 x8_7 x9_7).f0, (rd_T52 x8_7 x9_7).f1, y357⟩ : S52)) (k52_mkM _ _ _ (⟨(rd_T52 x8_7 x9_7).f0, (rd_T52 x8_7 x9_7).f1, y357⟩ : S52) HO359.out) (fun _ hk => hk); clear hcc69 hfr69) | ((with_reducible refine gate_store (t := 50) (p := 102) rfl ?_); (try (rw [drewN_self w68]; generalize hq_ : World.drewN w68 _ = w68; have n0_ := Aside0.mk (Kd.S_at hq_ HO_8.out); have n1_ := Aside0.mk (below_at hq_ HB.out); clear hq_ HO_8 HB; have HO_8 := n0_; have HB := n1_; clear n0_ n1_; (try (obtain ⟨Ao71, co71, eo71⟩ := Kd.R_slice HO359.out)); (try (subst eo71)); (try (obtain ⟨_, _, hraw69, _, _, hcc69, _⟩ := Kd.H_raw HH67.out (of_decide_eq_true (by first | (with_reducible assumption) | assumption)) (by have h_ : (x9_7 : Int) < ((x8_7.length : Int) : Int) := of_decide_eq_true (by first | (with_reducible assumption) | assumption); first | exact h_ | (have e_ := (HN67.out); omega) | simpa using h_))); (try (obtain ⟨_, hfr69⟩ := Kd.H_at HH67.out (of_decide_eq_true (by first | (with_reducible assumption) | assumption)) (by have h_ : (x9_7 : Int) < ((x8_7.length : Int) : Int) := of_decide_eq_true (by first | (with_reducible assumption) | assumption); first | exact h_ | (have e_ := (HN67.out); omega) | simpa using h_))); (try (have hx69_0 := hcc69 2 _ rfl)); (try (have hf69_0 := hfr69 2)); (try (try rw [show (k52).sz = 3 from rfl] at hx69_0)); (try (try rw [show (k52).sz = 3 from rfl] at hf69_0)); (try (have HP69 := Kd.S_seg0 HH67.out (of_decide_eq_true (by first | (with_reducible assumption) | assumption)) (by have h_ : (x9_7 : Int) < ((x8_7.length : Int) : Int) := of_decide_eq_true (by first | (with_reducible assumption) | assumption); first | exact h_ | (have e_ := (HN67.out); omega) | simpa using h_) (seg := [.slice Ao71 y357.length co71]) (j := 2) (show 3 ≤ 3 from by decide) (x' := (⟨(rd_T52 x8_7 x9_7).f0, (rd_T52 x8_7 x9_7).f1, y357⟩ : S52)) (k52_mkM _ _ _ (⟨(rd_T52 x8_7 x9_7).f0, (rd_T52 x8_7 x9_7).f1, y357⟩ : S52) HO359.out) (fun _ hk => hk))); (try (clear hcc69 hfr69)))); refine store_event (t := 50) (p := 102) (v := ?vo_w70) (w1 := (w68.setCell ⟨go67, (x9_7 : Int).toNat * 3 + 2, none⟩ (.slice Ao71 y357.length co71))) ?hg ?ho ?hn ?hr ?_; (case ho => rfl); (case hg => rfl); (case hn => rfl); (case hr => first | (go_simp; done) | (go_simp; rfl)); intro w70 hw; have hg : w68.grownBy w70 (some go67) := (by rw [hw]; exact HP69.2); have hp_ : Kd.S k52 52 w70 w.heap.size (fun _ => True) (.slice (some ⟨go67, 0, none⟩) x8_7.length co48) y360 := (by rw [hw, Ny360.out]; exact HP69.1); clear HP69; have n0_ := Aside0.mk ((by rw [hw]; exact below_set HB.out GB67.out : Below w.heap.size w w70)); have n1_ := Aside0.mk (hp_); clear HB; clear HO359; clear HH67; have HB := n0_; have HO_8 := n1_; clear n0_ n1_; clear hg hw hp_ hraw69; have p64 : 0 ≤ (x9_7 : Int) := of_decide_eq_true (by first | (with_reducible assumption) | assumption); have q64 : (x9_7 : Int) < ((x8_7.length : Int) : Int) := of_decide_eq_true (by first | (with_reducible assumption) | assumption); obtain ⟨_, ce64, hcl64, hM64, hcc64, hfr64, _, _⟩ := Kd.S_elem HO_8.out z52 (x9_7 : Int) p64 q64; obtain ⟨ve64_2, rfl, ge64_2⟩ := k52_openM hM64; have hx64_0 : w70.cell? ⟨go67, (x9_7 : Int).toNat * 3, none⟩ = some (.string ((rd_T52 y360 x9_7).f0)) := hcc64 0 _ rfl; have hx64_1 : w70.cell? ⟨go67, (x9_7 : Int).toNat * 3 + 1, none⟩ = some (.int .i64 ((rd_T52 y360 x9_7).f1)) := hcc64 1 _ rfl; have hx64_2 : w70.cell? ⟨go67, (x9_7 : Int).toNat * 3 + 2, none⟩ = some (ve64_2) := hcc64 2 _ rfl; have hf64_0 : w70.frozen? ⟨go67, (x9_7 : Int).toNat * 3, none⟩ = false := hfr64 0; have hf64_1 : w70.frozen? ⟨go67, (x9_7 : Int).toNat * 3 + 1, none⟩ = false := hfr64 1; have hf64_2 : w70.frozen? ⟨go67, (x9_7 : Int).toNat * 3 + 2, none⟩ = false := hfr64 2; clear hcl64 hcc64 hfr64 hM64; replace p64 := eq_true p64; replace q64 := eq_true q64; have HX72 := Aside0.mk (show Kd.S k52 52 w70 w.heap.size (fun k_ => ((fun _ => True)) k_ ∧ ¬ ((fun _ => False)) k_) (.slice (some ⟨go67, 0, none⟩) x8_7.length co48) y360 from (by (with_reducible repeat (first | apply Kd.S_alloc | apply Kd.S_drewN | apply Kd.S_drew)); exact Kd.S_mono HO_8.out (fun k_ hk => ⟨trivial, fun e_ => e_⟩))); obtain ⟨oki72, ce72, hcl72, hM72, hcc72, hfr72, hoki72, hH72⟩ := Kd.S_elem HX72.out z52 (x9_7 : Int) (of_decide_eq_true (by first | (with_reducible assumption) | assumption)) (by have h_ : (x9_7 : Int) < ((x8_7.length : Int) : Int) := of_decide_eq_true (by first | (with_reducible assumption) | assumption); first | exact h_ | (have e_ := (Kd.S_reads' HO_8.out).1; omega) | simpa using h_); obtain ⟨ve72_2, rfl, ge72_2⟩ := k52_openM hM72; have HP72 := Kd.S_seg hH72 (of_decide_eq_true (by first | (with_reducible assumption) | assumption)) (by have h_ : (x9_7 : Int) < ((x8_7.length : Int) : Int) := of_decide_eq_true (by first | (with_reducible assumption) | assumption); first | exact h_ | (have e_ := (Kd.S_reads' HO_8.out).1; omega) | simpa using h_) (seg := [.int .i64 x11_54]) (j := 1) (show 2 ≤ 3 from by decide) (x' := (⟨(rd_T52 y360 x9_7).f0, x11_54, (rd_T52 y360 x9_7).f2⟩ : S52)) (k52_mkM _ _ _ (⟨(rd_T52 y360 x9_7).f0, x11_54, (rd_T52 y360 x9_7).f2⟩ : S52) (Kd.R_mono ge72_2 (fun _ h_ => Or.inl h_))) (fun _ hk => hk) (fun k_ hk_ => hk_.elim); have hx72_1 := hcc72 1 _ rfl; (try simp only [show (k52).sz = 3 from rfl, Nat.mul_one, Nat.add_zero] at hx72_1); have hf72_1 := hfr72 1; (try simp only [show (k52).sz = 3 from rfl, Nat.mul_one, Nat.add_zero] at hf72_1); clear hcl72 hcc72 hfr72 hM72 hoki72 hH72) | ((with_reducible refine gate_store (t := 2) (p := 106) rfl ?_); (try (rw [drewN_self w70]; generalize hq_ : World.drewN w70 _ = w70; have n0_ := Aside0.mk (Kd.S_at hq_ HO_8.out); have n1_ := Aside0.mk (below_at hq_ HB.out); clear hq_ HO_8 HB; have HO_8 := n0_; have HB := n1_; clear n0_ n1_; (try (have HX72 := Aside0.mk (show Kd.S k52 52 w70 w.heap.size (fun k_ => ((fun _ => True)) k_ ∧ ¬ ((fun _ => False)) k_) (.slice (some ⟨go67, 0, none⟩) x8_7.length co48) y360 from (by (with_reducible repeat (first | apply Kd.S_alloc | apply Kd.S_drewN | apply Kd.S_drew)); exact Kd.S_mono HO_8.out (fun k_ hk => ⟨trivial, fun e_ => e_⟩))))); (try (obtain ⟨oki72, ce72, hcl72, hM72, hcc72, hfr72, hoki72, hH72⟩ := Kd.S_elem HX72.out z52 (x9_7 : Int) (of_decide_eq_true (by first | (with_reducible assumption) | assumption)) (by have h_ : (x9_7 : Int) < ((x8_7.length : Int) : Int) := of_decide_eq_true (by first | (with_reducible assumption) | assumption); first | exact h_ | (have e_ := (Kd.S_reads' HO_8.out).1; omega) | simpa using h_))); (try (obtain ⟨ve72_2, rfl, ge72_2⟩ := k52_openM hM72)); (try (have HP72 := Kd.S_seg hH72 (of_decide_eq_true (by first | (with_reducible assumption) | assumption)) (by have h_ : (x9_7 : Int) < ((x8_7.length : Int) : Int) := of_decide_eq_true (by first | (with_reducible assumption) | assumption); first | exact h_ | (have e_ := (Kd.S_reads' HO_8.out).1; omega) | simpa using h_) (seg := [.int .i64 x11_54]) (j := 1) (show 2 ≤ 3 from by decide) (x' := (⟨(rd_T52 y360 x9_7).f0, x11_54, (rd_T52 y360 x9_7).f2⟩ : S52)) (k52_mkM _ _ _ (⟨(rd_T52 y360 x9_7).f0, x11_54, (rd_T52 y360 x9_7).f2⟩ : S52) (Kd.R_mono ge72_2 (fun _ h_ => Or.inl h_))) (fun _ hk => hk) (fun k_ hk_ => hk_.elim))); (try (have hx72_1 := hcc72 1 _ rfl)); (try (try simp only [show (k52).sz = 3 from rfl, Nat.mul_one, Nat.add_zero] at hx72_1)); (try (have hf72_1 := hfr72 1)); (try (try simp only [show (k52).sz = 3 from rfl, Nat.mul_one, Nat.add_zero] at hf72_1)); (try (clear hcl72 hcc72 hfr72 hM72 hoki72 hH72)))); refine store_event (t := 2) (p := 106) (v := ?vo_w73) (w1 := (w70.setCell ⟨go67, (x9_7 : Int).toNat * 3 + 1, none⟩ (.int .i64 x11_54))) ?hg ?ho ?hn ?hr ?_; (case ho => rfl); (case hg => rfl); (case hn => rfl); (case hr => first | (go_simp; done) | (go_simp; rfl)); intro w73 hw; have hg : w70.grownBy w73 (some go67) := (by rw [hw]; exact HP72.2); have hp_ : Kd.S k52 52 w73 w.heap.size (fun _ => True) (.slice (some ⟨go67, 0, none⟩) x8_7.length co48) y361 := (by rw [hw, Ny361.out]; exact HP72.1); clear HP72; have n0_ := Aside0.mk (hp_); have n1_ := Aside0.mk ((by rw [hw]; exact below_set (HB.out) GB67.out : Below w.heap.size w w73)); clear HO_8; clear HB; have HO_8 := n0_; have HB := n1_; clear n0_ n1_; clear hg hw hp_) | (go_at_call 12; refine calls_of_args (args' := #[.slice (some ⟨go67, 0, none⟩) y361.length co48]) (by first | (rw [show y361.length = x8_7.length from (Kd.S_reads' HO_8.out).1.symm] <;> rfl) | rfl) ?_; (with_reducible refine (impl_ProfilesOk.calls kj54 _ _ y361 true _ ?side1 ?side2 A65.out).mono ?_); (case side1 => repeat (first | exact (Kd.S_reads' HO_8.out).2.2 | (with_reducible refine Kd.C_alloc ?_ _) | (with_reducible refine Kd.C_drewN ?_ _) | (with_reducible refine Kd.C_drew ?_))); (case side2 => rw [show y361.length = x8_7.length from (Kd.S_reads' HO_8.out).1.symm]; exact (Kd.S_reads' HO_8.out).2.1); rintro e w74 ⟨rfl, hb⟩; have n0_ := Aside0.mk (Kd.S_below (by (with_reducible repeat (first | apply Kd.S_alloc | apply Kd.S_drewN | apply Kd.S_drew)); exact HO_8.out) hb); have n1_ := Aside0.mk (below_step qB hb); clear HO_8; clear HB; have HO_8 := n0_; have HB := n1_; clear n0_ n1_; (try clear hb); (try clear hb2); (try clear hk); (try clear hi)))
                 try simp only [add_plain]
                 go_ret2
                 exact ⟨_, by first | rfl | (simp [errW_none, errW_some] <;> rfl) | (simp [*, errW_none, errW_some] <;> rfl), by (with_reducible repeat (first | apply Kd.S_alloc | apply Kd.S_drewN | apply Kd.S_drew)); exact HO_8.out, by repeat (first | (with_reducible first | exact HB.out | apply below_alloc | apply pw_below_drewN | apply below_drew1) | exact HB.out)⟩
                ·replace c66 := Bool.eq_false_iff.mpr c66
                 subst c66
                 have H1 : ((impl_copyProfiles.f kj54 l0).bind fun t363 => (some (t363, false))) = some (r1, r2) := by rw [if_neg (show ¬ (false = true) by decide)] at H; exact H
                 clear H
                 have H := H1
                 clear H1
                 replace H := Option.bind_eq_some_iff.mp H
                 obtain ⟨t363, A750, H⟩ := H
                 replace H : (some (t363, false)) = some (r1, r2) := H
                 have A75 := Aside0.mk A750
                 clear A750
                 simp only [Option.some.injEq, Prod.mk.injEq] at H
                 obtain ⟨rfl, rfl⟩ := H
                 have p356 : 0 ≤ (x9_7 : Int) := of_decide_eq_true (by first | (with_reducible assumption) | assumption)
                 have q356 : x9_7 < (x8_7.length : Int) := of_decide_eq_true (by first | (with_reducible assumption) | assumption)
                 obtain ⟨ad356, A356_2, c356_2, e356, hx356_0, hx356_1, hx356_2, hl356_2, hi356_2⟩ := at_T52 (Kd.S_reads' HO_8.out).2.2 x9_7 p356 q356
                 obtain rfl : ad348 = ad356 := (by injection e356)
                 obtain ⟨ce356, hce356, hMe356, hcc356⟩ := Kd.S_get HO_8.out z52 x9_7 p356 (by first | exact q356 | exact of_decide_eq_true (by first | (with_reducible assumption) | assumption) | (have e_ := (Kd.S_reads' HO_8.out).1; omega))
                 obtain ⟨ve356_2, rfl, ge356_2⟩ := k52_openM hMe356
                 have hv356_2 := hcc356 2 _ rfl
                 rw [add_field _ _ 2 (by omega)] at hv356_2
                 replace hv356_2 := Option.some.inj (hv356_2.symm.trans hx356_2)
                 rw [hv356_2] at ge356_2
                 have HL356_2 := Aside0.mk (show Kd.R k56 56 _ _ _ _ ((rd_T52 x8_7 x9_7).f2) from ge356_2)
                 clear hv356_2 ge356_2
                 have HX356_2 := Aside0.mk hx356_2
                 clear hcc356 hce356
                 have HR356_2 := Aside0.mk hi356_2
                 have HC356_2 := Aside0.mk hl356_2
                 clear hi356_2 hl356_2
                 replace p356 := eq_true p356
                 replace q356 := eq_true q356
                 try (have eb_ := Option.some.inj (hx356_2.symm.trans hx349_2); injection eb_ with ea_ en_ ec_; subst ea_; subst ec_; clear en_)
                 try (have eb_ := Option.some.inj (hx356_2.symm.trans hx350_2); injection eb_ with ea_ en_ ec_; subst ea_; subst ec_; clear en_)
                 try (have eb_ := Option.some.inj (hx356_2.symm.trans hx352_2); injection eb_ with ea_ en_ ec_; subst ea_; subst ec_; clear en_)
                 try (have eb_ := Option.some.inj (hx356_2.symm.trans hx353_2); injection eb_ with ea_ en_ ec_; subst ea_; subst ec_; clear en_)
                 try (have eb_ := Option.some.inj (hx356_2.symm.trans hx354_2); injection eb_ with ea_ en_ ec_; subst ea_; subst ec_; clear en_)
                 try (have eb_ := Option.some.inj (hx356_2.symm.trans hx356_2); injection eb_ with ea_ en_ ec_; subst ea_; subst ec_; clear en_)
                 obtain ⟨go76, co76, eo76, gb76, gl76, cl76, HG76⟩ := Kd.S_form HO_8.out (by have h_ : (x9_7 : Int) < ((x8_7.length : Int) : Int) := of_decide_eq_true (by first | (with_reducible assumption) | assumption); have h2_ : 0 ≤ (x9_7 : Int) := (of_decide_eq_true (by first | (with_reducible assumption) | assumption)); omega)
                 (first | cases eo76 | (injection eo76 with ea_ en_ ec_; (first | subst ea_ | (injection ea_ with ea_; subst ea_)); subst ec_; clear en_))
                 have GB76 := Aside0.mk gb76
                 have GG76 := Aside0.mk HG76
                 clear gb76 gl76 HG76
                 (first | simp only [add_plain] at hx356_0 | skip)
                 (first | simp only [add_plain] at hx356_1 | skip)
                 (first | simp only [add_plain] at hx356_2 | skip)
                 obtain ⟨oki76, ce76, hcl76, hM76, hcc76, _, _, hH76⟩ := Kd.S_elem HO_8.out z52 (x9_7 : Int) (of_decide_eq_true (by first | (with_reducible assumption) | assumption)) (by have h_ : (x9_7 : Int) < ((x8_7.length : Int) : Int) := of_decide_eq_true (by first | (with_reducible assumption) | assumption); first | exact h_ | (have e_ := (Kd.S_reads' HO_8.out).1; omega) | simpa using h_)
                 obtain ⟨ve76_2, rfl, ge76_2⟩ := k52_openM hM76
                 have hv76 := hcc76 2 _ rfl
                 have hX76 := HX356_2.out
                 (try simp only [add_plain] at hX76)
                 (try simp only [Nat.add_zero] at hv76)
                 replace hv76 := Option.some.inj (hv76.symm.trans hX76)
                 subst hv76
                 clear hX76 hcc76 hcl76
                 have UU76 := Aside0.mk (show Kd.R k56 56 _ w.heap.size oki76 (.slice A356_2 ((rd_T52 x8_7 x9_7).f2).length c356_2) ((rd_T52 x8_7 x9_7).f2) from ge76_2)
                 have HH76 := Aside0.mk hH76
                 have HN76 := Aside0.mk (Kd.S_reads' HO_8.out).1
                 clear hH76 ge76_2
                 try simp only [add_plain]
                 go_wp2_with (first | ((with_reducible refine gate_builtin (b := .append) (xs := #[.tmp 95, .tmp 99]) rfl ?_); at_builtin; refine Kd.R_append k56 (w0 := w) w.heap.size rfl (.tmp 95) (.tmp 99) 50 56 (.agg #[(.int .i64 0), (.string ⟨#[]⟩)]) 24 rfl Try.underlying50 info56 rfl (by decide) (by omega) (.slice A356_2 ((rd_T52 x8_7 x9_7).f2).length c356_2) ((rd_T52 x8_7 x9_7).f2) (⟨x11_54, a2⟩ : S56) [.int .i64 x11_54, .string a2] (fun k_ => oki76 k_ ∨ ((fun _ => True)) k_ ∧ wc.heap.size ≤ k_) (fun _ => False) rfl rfl ?aP (fun _ hk => hk.elim) ?aF ?aO ?aB ?aS ?aL ?_; (case aP => exact k56_mkM _ _ _ (⟨x11_54, a2⟩ : S56)); (case aB => exact qB); (case aF => exact (fun k_ hk => .inr ⟨trivial, hk⟩)); (case aO => exact (by (with_reducible repeat (first | apply Kd.R_alloc | apply Kd.R_drewN | apply Kd.R_drew)); exact Kd.R_mono UU76.out (fun _ hk => .inl hk))); (case aS => exact (below_size qB)); (case aL => have := LMc62.out; omega); intro v358 w77 ho hb hg hat; rw [← Ny357.out] at ho; have n0_ := Aside0.mk (hb); have n1_ := Aside0.mk (Kd.H_grown (Kd.H_widen (by repeat (first | exact HH76.out | refine Kd.H_alloc ?_ _ | refine Kd.H_drewN ?_ _ | refine Kd.H_drew ?_))) hg (fun k_ e_ => .inl (UU76.out.1 k_ e_))); have n2_ := Aside0.mk (ho); clear HB; clear HH76; clear HO_8; clear UU76; clear HL356_2; have HB := n0_; have HH76 := n1_; have HO359 := n2_; clear n0_ n1_ n2_; clear ho hb hg hat; have p63 : 0 ≤ (x9_7 : Int) := of_decide_eq_true (by first | (with_reducible assumption) | assumption); have q63 : (x9_7 : Int) < ((x8_7.length : Int) : Int) := of_decide_eq_true (by first | (with_reducible assumption) | assumption); replace p63 := eq_true p63; replace q63 := eq_true q63; obtain ⟨Ao80, co80, eo80⟩ := Kd.R_slice HO359.out; subst eo80; obtain ⟨_, _, hraw78, _, _, hcc78, _⟩ := Kd.H_raw HH76.out (of_decide_eq_true (by first | (with_reducible assumption) | assumption)) (by have h_ : (x9_7 : Int) < ((x8_7.length : Int) : Int) := of_decide_eq_true (by first | (with_reducible assumption) | assumption); first | exact h_ | (have e_ := (HN76.out); omega) | simpa using h_); obtain ⟨_, hfr78⟩ := Kd.H_at HH76.out (of_decide_eq_true (by first | (with_reducible assumption) | assumption)) (by have h_ : (x9_7 : Int) < ((x8_7.length : Int) : Int) := of_decide_eq_true (by first | (with_reducible assumption) | assumption); first | exact h_ | (have e_ := (HN76.out); omega) | simpa using h_); have hx78_0 := hcc78 2 _ rfl; have hf78_0 := hfr78 2; (try rw [show (k52).sz = 3 from rfl] at hx78_0); (try rw [show (k52).sz = 3 from rfl] at hf78_0); have HP78 := Kd.S_seg0 HH76.out (of_decide_eq_true (by first | (with_reducible assumption) | assumption)) (by have h_ : (x9_7 : Int) < ((x8_7.length : Int) : Int) := of_decide_eq_true (by first | (with_reducible assumption) | assumption); first | exact h_ | (have e_ := (HN76.out); omega) | simpa using h_) (seg := [.slice Ao80 y357.length co80]) (j := 2) (show 3 ≤ 3 from by decide) (x' := (⟨(rd_T52 x8_7 x9_7).f0, (rd_T52 x8_7 x9_7).f1, y357⟩ : S52)) (k52_mkM _ _ _ (⟨(rd_T52 x8_7 x9_7).f0, (rd_T52 x8_7 x9_7).f1, y357⟩ : S52) HO359.out) (fun _ hk => hk); clear hcc78 hfr78) | ((with_reducible refine gate_store (t := 50) (p := 102) rfl ?_); (try (rw [drewN_self w77]; generalize hq_ : World.drewN w77 _ = w77; have n0_ := Aside0.mk (Kd.S_at hq_ HO_8.out); have n1_ := Aside0.mk (below_at hq_ HB.out); clear hq_ HO_8 HB; have HO_8 := n0_; have HB := n1_; clear n0_ n1_; (try (obtain ⟨Ao80, co80, eo80⟩ := Kd.R_slice HO359.out)); (try (subst eo80)); (try (obtain ⟨_, _, hraw78, _, _, hcc78, _⟩ := Kd.H_raw HH76.out (of_decide_eq_true (by first | (with_reducible assumption) | assumption)) (by have h_ : (x9_7 : Int) < ((x8_7.length : Int) : Int) := of_decide_eq_true (by first | (with_reducible assumption) | assumption); first | exact h_ | (have e_ := (HN76.out); omega) | simpa using h_))); (try (obtain ⟨_, hfr78⟩ := Kd.H_at HH76.out (of_decide_eq_true (by first | (with_reducible assumption) | assumption)) (by have h_ : (x9_7 : Int) < ((x8_7.length : Int) : Int) := of_decide_eq_true (by first | (with_reducible assumption) | assumption); first | exact h_ | (have e_ := (HN76.out); omega) | simpa using h_))); (try (have hx78_0 := hcc78 2 _ rfl)); (try (have hf78_0 := hfr78 2)); (try (try rw [show (k52).sz = 3 from rfl] at hx78_0)); (try (try rw [show (k52).sz = 3 from rfl] at hf78_0)); (try (have HP78 := Kd.S_seg0 HH76.out (of_decide_eq_true (by first | (with_reducible assumption) | assumption)) (by have h_ : (x9_7 : Int) < ((x8_7.length : Int) : Int) := of_decide_eq_true (by first | (with_reducible assumption) | assumption); first | exact h_ | (have e_ := (HN76.out); omega) | simpa using h_) (seg := [.slice Ao80 y357.length co80]) (j := 2) (show 3 ≤ 3 from by decide) (x' := (⟨(rd_T52 x8_7 x9_7).f0, (rd_T52 x8_7 x9_7).f1, y357⟩ : S52)) (k52_mkM _ _ _ (⟨(rd_T52 x8_7 x9_7).f0, (rd_T52 x8_7 x9_7).f1, y357⟩ : S52) HO359.out) (fun _ hk => hk))); (try (clear hcc78 hfr78)))); refine store_event (t := 50) (p := 102) (v := ?vo_w79) (w1 := (w77.setCell ⟨go76, (x9_7 : Int).toNat * 3 + 2, none⟩ (.slice Ao80 y357.length co80))) ?hg ?ho ?hn ?hr ?_; (case ho => rfl); (case hg => rfl); (case hn => rfl); (case hr => first | (go_simp; done) | (go_simp; rfl)); intro w79 hw; have hg : w77.grownBy w79 (some go76) := (by rw [hw]; exact HP78.2); have hp_ : Kd.S k52 52 w79 w.heap.size (fun _ => True) (.slice (some ⟨go76, 0, none⟩) x8_7.length co48) y360 := (by rw [hw, Ny360.out]; exact HP78.1); clear HP78; have n0_ := Aside0.mk ((by rw [hw]; exact below_set HB.out GB76.out : Below w.heap.size w w79)); have n1_ := Aside0.mk (hp_); clear HB; clear HO359; clear HH76; have HB := n0_; have HO_8 := n1_; clear n0_ n1_; clear hg hw hp_ hraw78; have p64 : 0 ≤ (x9_7 : Int) := of_decide_eq_true (by first | (with_reducible assumption) | assumption); have q64 : (x9_7 : Int) < ((x8_7.length : Int) : Int) := of_decide_eq_true (by first | (with_reducible assumption) | assumption); obtain ⟨_, ce64, hcl64, hM64, hcc64, hfr64, _, _⟩ := Kd.S_elem HO_8.out z52 (x9_7 : Int) p64 q64; obtain ⟨ve64_2, rfl, ge64_2⟩ := k52_openM hM64; have hx64_0 : w79.cell? ⟨go76, (x9_7 : Int).toNat * 3, none⟩ = some (.string ((rd_T52 y360 x9_7).f0)) := hcc64 0 _ rfl; have hx64_1 : w79.cell? ⟨go76, (x9_7 : Int).toNat * 3 + 1, none⟩ = some (.int .i64 ((rd_T52 y360 x9_7).f1)) := hcc64 1 _ rfl; have hx64_2 : w79.cell? ⟨go76, (x9_7 : Int).toNat * 3 + 2, none⟩ = some (ve64_2) := hcc64 2 _ rfl; have hf64_0 : w79.frozen? ⟨go76, (x9_7 : Int).toNat * 3, none⟩ = false := hfr64 0; have hf64_1 : w79.frozen? ⟨go76, (x9_7 : Int).toNat * 3 + 1, none⟩ = false := hfr64 1; have hf64_2 : w79.frozen? ⟨go76, (x9_7 : Int).toNat * 3 + 2, none⟩ = false := hfr64 2; clear hcl64 hcc64 hfr64 hM64; replace p64 := eq_true p64; replace q64 := eq_true q64; have HX81 := Aside0.mk (show Kd.S k52 52 w79 w.heap.size (fun k_ => ((fun _ => True)) k_ ∧ ¬ ((fun _ => False)) k_) (.slice (some ⟨go76, 0, none⟩) x8_7.length co48) y360 from (by (with_reducible repeat (first | apply Kd.S_alloc | apply Kd.S_drewN | apply Kd.S_drew)); exact Kd.S_mono HO_8.out (fun k_ hk => ⟨trivial, fun e_ => e_⟩))); obtain ⟨oki81, ce81, hcl81, hM81, hcc81, hfr81, hoki81, hH81⟩ := Kd.S_elem HX81.out z52 (x9_7 : Int) (of_decide_eq_true (by first | (with_reducible assumption) | assumption)) (by have h_ : (x9_7 : Int) < ((x8_7.length : Int) : Int) := of_decide_eq_true (by first | (with_reducible assumption) | assumption); first | exact h_ | (have e_ := (Kd.S_reads' HO_8.out).1; omega) | simpa using h_); obtain ⟨ve81_2, rfl, ge81_2⟩ := k52_openM hM81; have HP81 := Kd.S_seg hH81 (of_decide_eq_true (by first | (with_reducible assumption) | assumption)) (by have h_ : (x9_7 : Int) < ((x8_7.length : Int) : Int) := of_decide_eq_true (by first | (with_reducible assumption) | assumption); first | exact h_ | (have e_ := (Kd.S_reads' HO_8.out).1; omega) | simpa using h_) (seg := [.int .i64 x11_54]) (j := 1) (show 2 ≤ 3 from by decide) (x' := (⟨(rd_T52 y360 x9_7).f0, x11_54, (rd_T52 y360 x9_7).f2⟩ : S52)) (k52_mkM _ _ _ (⟨(rd_T52 y360 x9_7).f0, x11_54, (rd_T52 y360 x9_7).f2⟩ : S52) (Kd.R_mono ge81_2 (fun _ h_ => Or.inl h_))) (fun _ hk => hk) (fun k_ hk_ => hk_.elim); have hx81_1 := hcc81 1 _ rfl; (try simp only [show (k52).sz = 3 from rfl, Nat.mul_one, Nat.add_zero] at hx81_1); have hf81_1 := hfr81 1; (try simp only [show (k52).sz = 3 from rfl, Nat.mul_one, Nat.add_zero] at hf81_1); clear hcl81 hcc81 hfr81 hM81 hoki81 hH81) | ((with_reducible refine gate_store (t := 2) (p := 106) rfl ?_); (try (rw [drewN_self w79]; generalize hq_ : World.drewN w79 _ = w79; have n0_ := Aside0.mk (Kd.S_at hq_ HO_8.out); have n1_ := Aside0.mk (below_at hq_ HB.out); clear hq_ HO_8 HB; have HO_8 := n0_; have HB := n1_; clear n0_ n1_; (try (have HX81 := Aside0.mk (show Kd.S k52 52 w79 w.heap.size (fun k_ => ((fun _ => True)) k_ ∧ ¬ ((fun _ => False)) k_) (.slice (some ⟨go76, 0, none⟩) x8_7.length co48) y360 from (by (with_reducible repeat (first | apply Kd.S_alloc | apply Kd.S_drewN | apply Kd.S_drew)); exact Kd.S_mono HO_8.out (fun k_ hk => ⟨trivial, fun e_ => e_⟩))))); (try (obtain ⟨oki81, ce81, hcl81, hM81, hcc81, hfr81, hoki81, hH81⟩ := Kd.S_elem HX81.out z52 (x9_7 : Int) (of_decide_eq_true (by first | (with_reducible assumption) | assumption)) (by have h_ : (x9_7 : Int) < ((x8_7.length : Int) : Int) := of_decide_eq_true (by first | (with_reducible assumption) | assumption); first | exact h_ | (have e_ := (Kd.S_reads' HO_8.out).1; omega) | simpa using h_))); (try (obtain ⟨ve81_2, rfl, ge81_2⟩ := k52_openM hM81)); (try (have HP81 := Kd.S_seg hH81 (of_decide_eq_true (by first | (with_reducible assumption) | assumption)) (by have h_ : (x9_7 : Int) < ((x8_7.length : Int) : Int) := of_decide_eq_true (by first | (with_reducible assumption) | assumption); first | exact h_ | (have e_ := (Kd.S_reads' HO_8.out).1; omega) | simpa using h_) (seg := [.int .i64 x11_54]) (j := 1) (show 2 ≤ 3 from by decide) (x' := (⟨(rd_T52 y360 x9_7).f0, x11_54, (rd_T52 y360 x9_7).f2⟩ : S52)) (k52_mkM _ _ _ (⟨(rd_T52 y360 x9_7).f0, x11_54, (rd_T52 y360 x9_7).f2⟩ : S52) (Kd.R_mono ge81_2 (fun _ h_ => Or.inl h_))) (fun _ hk => hk) (fun k_ hk_ => hk_.elim))); (try (have hx81_1 := hcc81 1 _ rfl)); (try (try simp only [show (k52).sz = 3 from rfl, Nat.mul_one, Nat.add_zero] at hx81_1)); (try (have hf81_1 := hfr81 1)); (try (try simp only [show (k52).sz = 3 from rfl, Nat.mul_one, Nat.add_zero] at hf81_1)); (try (clear hcl81 hcc81 hfr81 hM81 hoki81 hH81)))); refine store_event (t := 2) (p := 106) (v := ?vo_w82) (w1 := (w79.setCell ⟨go76, (x9_7 : Int).toNat * 3 + 1, none⟩ (.int .i64 x11_54))) ?hg ?ho ?hn ?hr ?_; (case ho => rfl); (case hg => rfl); (case hn => rfl); (case hr => first | (go_simp; done) | (go_simp; rfl)); intro w82 hw; have hg : w79.grownBy w82 (some go76) := (by rw [hw]; exact HP81.2); have hp_ : Kd.S k52 52 w82 w.heap.size (fun _ => True) (.slice (some ⟨go76, 0, none⟩) x8_7.length co48) y361 := (by rw [hw, Ny361.out]; exact HP81.1); clear HP81; have n0_ := Aside0.mk (hp_); have n1_ := Aside0.mk ((by rw [hw]; exact below_set (HB.out) GB76.out : Below w.heap.size w w82)); clear HO_8; clear HB; have HO_8 := n0_; have HB := n1_; clear n0_ n1_; clear hg hw hp_) | (go_at_call 12; refine calls_of_args (args' := #[.slice (some ⟨go76, 0, none⟩) y361.length co48]) (by first | (rw [show y361.length = x8_7.length from (Kd.S_reads' HO_8.out).1.symm] <;> rfl) | rfl) ?_; (with_reducible refine (impl_ProfilesOk.calls kj54 _ _ y361 false _ ?side1 ?side2 A65.out).mono ?_); (case side1 => repeat (first | exact (Kd.S_reads' HO_8.out).2.2 | (with_reducible refine Kd.C_alloc ?_ _) | (with_reducible refine Kd.C_drewN ?_ _) | (with_reducible refine Kd.C_drew ?_))); (case side2 => rw [show y361.length = x8_7.length from (Kd.S_reads' HO_8.out).1.symm]; exact (Kd.S_reads' HO_8.out).2.1); rintro e w83 ⟨rfl, hb⟩; have n0_ := Aside0.mk (Kd.S_below (by (with_reducible repeat (first | apply Kd.S_alloc | apply Kd.S_drewN | apply Kd.S_drew)); exact HO_8.out) hb); have n1_ := Aside0.mk (below_step qB hb); clear HO_8; clear HB; have HO_8 := n0_; have HB := n1_; clear n0_ n1_; (try clear hb); (try clear hb2); (try clear hk); (try clear hi)) | (go_at_call 42; (with_reducible refine (impl_copyProfiles.calls kj54 _ _ l0 t363 _ ?side1 ?side2 A75.out).mono ?_); (case side1 => repeat (first | exact (Kd.C_below HR0.out HB.out) | (with_reducible refine Kd.C_alloc ?_ _) | (with_reducible refine Kd.C_drewN ?_ _) | (with_reducible refine Kd.C_drew ?_))); (case side2 => exact HC0.out); rintro e w84 ⟨v364, rfl, ho0, hb⟩; have n0_ := Aside0.mk (Kd.S_elder' (by (with_reducible repeat (first | apply Kd.S_alloc | apply Kd.S_drewN | apply Kd.S_drew)); exact HO_8.out) (Kd.S_base ho0) hb); have n1_ := Aside0.mk (Kd.S_lower (Kd.S_new' ho0 (Kd.S_lt (by (with_reducible repeat (first | apply Kd.S_alloc | apply Kd.S_drewN | apply Kd.S_drew)); exact HO_8.out))) (below_size qB)); have n2_ := Aside0.mk (below_step qB hb); clear HO_8; clear HB; have HO_8 := n0_; have HO365 := n1_; have HB := n2_; clear n0_ n1_ n2_; (try clear hb); (try clear hb2); (try clear hk); (try clear hi); (try clear ho0)))
                 try simp only [add_plain]
                 go_ret2
                 exact ⟨_, by first | rfl | (simp [errW_none, errW_some] <;> rfl) | (simp [*, errW_none, errW_some] <;> rfl), by (with_reducible repeat (first | apply Kd.S_alloc | apply Kd.S_drewN | apply Kd.S_drew)); exact Kd.S_mono HO365.out (fun _ hk => trivial), by repeat (first | (with_reducible first | exact HB.out | apply below_alloc | apply pw_below_drewN | apply below_drew1) | exact HB.out)⟩
               ·rw [if_neg c62] at H
                exact absurd H (by simp)
              ·rw [if_neg c61] at H
               exact absurd H (by simp)
             ·rw [if_neg c60] at H
              exact absurd H (by simp)
          ·rw [if_neg c54] at H
           exact absurd H (by simp)
         ·rw [if_neg c53] at H
          exact absurd H (by simp)
     ·rw [if_neg c46] at H
      exact absurd H (by simp)
    ·rw [if_neg c45] at H
     exact absurd H (by simp)
 ·replace c5 := Bool.eq_false_iff.mpr c5
  subst c5
  have H1 : (some (([] : List (S52)), false)) = some (r1, r2) := by rw [if_neg (show ¬ (false = true) by decide)] at H; exact H
  clear H
  have H := H1
  clear H1
  simp only [Option.some.injEq, Prod.mk.injEq] at H
  obtain ⟨rfl, rfl⟩ := H
  go_enter Try.func23, Try.ntmps23
  go_wp2_with (first | (go_at_call 12; (with_reducible refine (impl_ProfilesOk.calls k _ _ l0 false _ ?side1 ?side2 A4.out).mono ?_); (case side1 => repeat (first | exact HR0.out | (with_reducible refine Kd.C_alloc ?_ _) | (with_reducible refine Kd.C_drewN ?_ _) | (with_reducible refine Kd.C_drew ?_))); (case side2 => exact HC0.out); rintro e w85 ⟨rfl, hb⟩; have n0_ := Aside0.mk (below_step qB hb); clear HB; have HB := n0_; clear n0_; (try clear hb); (try clear hb2); (try clear hk); (try clear hi)))
  go_ret2
  exact ⟨_, by first | rfl | (simp [errW_none, errW_some] <;> rfl) | (simp [*, errW_none, errW_some] <;> rfl), by first | exact Kd.S_nil _ _ _ _ _ | exact Kd.N_nil _ _ _ _ _ | exact Kd.V_nil _ _ _ _ _ | exact Kd.Q_nil _ _ _ _ _ | exact Kd.R_nil _ _ _ _ _, by repeat (first | (with_reducible first | exact HB.out | apply below_alloc | apply pw_below_drewN | apply below_drew1) | exact HB.out)⟩

end Go.Proofs.Ytbgnjnlecpdfaaa.PFnExactSwitch
