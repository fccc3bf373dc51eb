-- Laid by a program of this session: a turned copy of the kit's print, with contracts by hand beside.
import Derived.Test.YtbgnjnlecpdfaaaPFnExactSwitchx0
import Derived.Test.YtbgnjnlecpdfaaaPFnExactSwitchx6
import Derived.Test.YtbgnjnlecpdfaaaPFnExactSwitchx7
namespace Go.Proofs.Ytbgnjnlecpdfaaa.PFnExactSwitch
open Go.RowKit Go.Proofs.YtbgnjnlecpdfaaaW.PrintWords Go.Proofs.YtbgnjnlecpdfaaaW.PrintLast Go.Proofs.YtbgnjnlecpdfaaaW.PrintMore
attribute [local go_sem] max2_int min2_int max_two min_two max_three min_three max_four min_four   -- for this text's walks alone
set_option linter.unusedVariables false
set_option linter.unusedSimpArgs false

/-! ### spec_Switch: function 22 -/
theorem sw_k56_mkF (W : World) (ok : Nat → Prop) (x : S56) : Kd.FK k56 W ok x [.int .i64 x.f0, .string x.f1] := fun W2 _ => k56_mk W2 x
theorem sw_k52_openF {W : World} {ok : Nat → Prop} {x : S52} {cs : List Value} (h : Kd.FK k52 W ok x cs) : ∃ A2 c2, cs = [.string x.f0, .int .i64 x.f1, .slice A2 x.f2.length c2] ∧ x.f2.length ≤ c2 ∧ Kd.F k56 W ok A2 x.f2.length x.f2 := by
  obtain ⟨A2, c2, rfl, l2, _⟩ := k52_open (Kd.FK_now h)
  exact ⟨A2, c2, rfl, l2, (fun W' hW => by obtain ⟨A2_, c2_, he, l2_, g2_⟩ := k52_open (h W' hW); injection (Option.some.inj (show some (Value.slice A2 x.f2.length c2) = some (Value.slice A2_ x.f2.length c2_) from congrArg (fun l => l[2]?) he)) with ha_ _ _; rw [ha_]; exact g2_)⟩
theorem sw_k52_mkF (W : World) (ok : Nat → Prop) (x : S52) {A2 : Option Addr} {c2 : Nat} (l2 : x.f2.length ≤ c2) (g2 : Kd.F k56 W ok A2 x.f2.length x.f2) : Kd.FK k52 W ok x [.string x.f0, .int .i64 x.f1, .slice A2 x.f2.length c2] := fun W2 hW => k52_mk W2 x l2 (g2 W2 hW)
mutual
def spec_Switch.j1 (p0 : List S52) : Nat → ByteArray → List (S52) → Int → Option ((List (S52)) × Bool)
  | 0, _, _, _ => none
  | k + 1, x2, x8, x9 => if 0 ≤ x9 then (if x9 < (x8.length : Int) then (if x2.toList = ([] : List UInt8) then (spec_Switch.j2 p0 k x2 x8 x9 false) else ((spec_l13Current.f k ((rd_T52 x8 x9).f0) ((rd_T52 x8 x9).f1) ((rd_T52 x8 x9).f2)).bind fun t257 => (spec_Switch.j2 p0 k x2 x8 x9 (t257.toList == x2.toList)))) else (none)) else (none)
def spec_Switch.j2 (p0 : List S52) : Nat → ByteArray → List (S52) → Int → Bool → Option ((List (S52)) × Bool)
  | 0, _, _, _, _ => none
  | k + 1, x2, x8, x9, x64 => if x64 = true then ((spec_l13Copy.f k p0).bind fun t258 => (some (t258, true))) else (if 0 ≤ x9 then (if x9 < (x8.length : Int) then (if (((rd_T52 x8 x9).f2).length : Int) > 0 then (if 0 ≤ (wrap64 ((((rd_T52 x8 x9).f2).length : Int) - 1)) then (if (wrap64 ((((rd_T52 x8 x9).f2).length : Int) - 1)) < (((rd_T52 x8 x9).f2).length : Int) then (spec_Switch.j3 p0 k x2 x8 x9 (wrap64 (((rd_T56 ((rd_T52 x8 x9).f2) (wrap64 ((((rd_T52 x8 x9).f2).length : Int) - 1))).f0) + 1))) else (none)) else (none)) else (spec_Switch.j3 p0 k x2 x8 x9 1)) else (none)) else (none))
def spec_Switch.j3 (p0 : List S52) : Nat → ByteArray → List (S52) → Int → Int → Option ((List (S52)) × Bool)
  | 0, _, _, _, _ => none
  | k + 1, x2, x8, x9, x12 => (some (([] : List (S56)) : List (S56))).bind fun y265 => (if 0 ≤ x9 then (if x9 < (x8.length : Int) then (if y265.length + ((rd_T52 x8 x9).f2).length < 5864062014805 then ((some (y265 ++ ((rd_T52 x8 x9).f2) : List (S56))).bind fun y269 => ((some (([(⟨x12, x2⟩ : S56)] : List (S56)) : List (S56))).bind fun y272 => (if y269.length + y272.length < 5864062014805 then ((some (x8.set (x9 : Int).toNat (⟨(rd_T52 x8 x9).f0, (rd_T52 x8 x9).f1, (y269 ++ y272)⟩ : S52) : List (S52))).bind fun y278 => ((some (y278.set (x9 : Int).toNat (⟨(rd_T52 y278 x9).f0, x12, (rd_T52 y278 x9).f2⟩ : S52) : List (S52))).bind fun y279 => ((spec_ProfilesOk.f k y279).bind fun t280 => (if t280 = true then (some (y279, true)) else ((spec_l13Copy.f k p0).bind fun t281 => (some (t281, false))))))) else (none)))) else (none)) else (none)) else (none))
def spec_Switch.l0 (p0 : List S52) : Nat → ByteArray → ByteArray → List (S52) → Int → Option ((List (S52)) × Bool)
  | 0, _, _, _, _ => none
  | k + 1, x1, x2, x8, x10 => if x10 < (x8.length : Int) then (if 0 ≤ x10 then (if (Op.bytesLess (((rd_T52 x8 x10).f0).toList) x1.toList) = true then (spec_Switch.l0 p0 k x1 x2 x8 (wrap64 (x10 + 1))) else ((some (([] : List (S52)) : List (S52))).bind fun y205 => (if x10 ≤ (x8.length : Int) then ((some (x8.take (x10 : Int).toNat : List (S52))).bind fun y208 => (if y205.length + y208.length < 2932031007402 then ((some (y205 ++ y208 : List (S52))).bind fun y213 => ((some (([(⟨x1, 0, ([] : List (S56))⟩ : S52)] : List (S52)) : List (S52))).bind fun y216 => (if y213.length + y216.length < 2932031007402 then ((some (y213 ++ y216 : List (S52))).bind fun y219 => ((some (x8.drop (x10 : Int).toNat : List (S52))).bind fun y222 => (if y219.length + y222.length < 2932031007402 then (spec_Switch.j1 p0 k x2 (y219 ++ y222) x10) else (none)))) else (none)))) else (none))) else (none)))) else (none)) else ((some (([] : List (S52)) : List (S52))).bind fun y230 => (if 0 ≤ x10 then (if x10 ≤ (x8.length : Int) then ((some (x8.take (x10 : Int).toNat : List (S52))).bind fun y233 => (if y230.length + y233.length < 2932031007402 then ((some (y230 ++ y233 : List (S52))).bind fun y238 => ((some (([(⟨x1, 0, ([] : List (S56))⟩ : S52)] : List (S52)) : List (S52))).bind fun y241 => (if y238.length + y241.length < 2932031007402 then ((some (y238 ++ y241 : List (S52))).bind fun y244 => ((some (x8.drop (x10 : Int).toNat : List (S52))).bind fun y247 => (if y244.length + y247.length < 2932031007402 then (spec_Switch.j1 p0 k x2 (y244 ++ y247) x10) else (none)))) else (none)))) else (none))) else (none)) else (none)))
end
def spec_Switch.f (k : Nat) (l0 : List (S52)) (a1 : ByteArray) (a2 : ByteArray) : Option ((List (S52)) × Bool) := (spec_ProfilesOk.f k l0).bind fun t196 => (if t196 = true then ((spec_l13Copy.f k l0).bind fun t200 => ((spec_l13Find.f k t200 a1).bind fun t203 => (if t203 < 0 then (spec_Switch.l0 l0 k a1 a2 t200 0) else (spec_Switch.j1 l0 k a2 t200 t203)))) else (some ((([] : List (S52))), false)))
theorem spec_Switch.mono_l (p0 : List S52) : ∀ k, (∀ y0 y1 y2, LeO (spec_Switch.j1 p0 k y0 y1 y2) (spec_Switch.j1 p0 (k + 1) y0 y1 y2)) ∧ (∀ y0 y1 y2 y3, LeO (spec_Switch.j2 p0 k y0 y1 y2 y3) (spec_Switch.j2 p0 (k + 1) y0 y1 y2 y3)) ∧ (∀ y0 y1 y2 y3, LeO (spec_Switch.j3 p0 k y0 y1 y2 y3) (spec_Switch.j3 p0 (k + 1) y0 y1 y2 y3)) ∧ (∀ y0 y1 y2 y3, LeO (spec_Switch.l0 p0 k y0 y1 y2 y3) (spec_Switch.l0 p0 (k + 1) y0 y1 y2 y3))
  | 0 => ⟨fun _ _ _ r h => by simp [spec_Switch.j1] at h, fun _ _ _ _ r h => by simp [spec_Switch.j2] at h, fun _ _ _ _ r h => by simp [spec_Switch.j3] at h, fun _ _ _ _ r h => by simp [spec_Switch.l0] at h⟩
  | k + 1 => by
    obtain ⟨ih0, ih1, ih2, ih3⟩ := spec_Switch.mono_l p0 k
    refine ⟨?_, ?_, ?_, ?_⟩
    · intro y0 y1 y2
      unfold spec_Switch.j1
      repeat' first
      | (with_reducible exact ih0 _ _ _)
      | (with_reducible exact ih1 _ _ _ _)
      | (with_reducible exact ih2 _ _ _ _)
      | (with_reducible exact ih3 _ _ _ _)
      | (with_reducible exact spec_ProfilesOk.mono _ _)
      | (with_reducible exact spec_l13Copy.mono _ _)
      | (with_reducible exact spec_l13Current.mono _ _ _ _)
      | (with_reducible exact spec_l13Find.mono _ _ _)
      | (with_reducible exact LeO.refl _)
      | (with_reducible exact LeO.none _)
      | (with_reducible refine LeO.ite ?_ ?_)
      | (with_reducible refine LeO.bind ?_ (fun _ => ?_))
      | exact ih0 _ _ _
      | exact ih1 _ _ _ _
      | exact ih2 _ _ _ _
      | exact ih3 _ _ _ _
      | exact spec_ProfilesOk.mono _ _
      | exact spec_l13Copy.mono _ _
      | exact spec_l13Current.mono _ _ _ _
      | exact spec_l13Find.mono _ _ _
      | exact LeO.none _
      | refine LeO.ite ?_ ?_
      | refine LeO.bind ?_ (fun _ => ?_)
    · intro y0 y1 y2 y3
      unfold spec_Switch.j2
      repeat' first
      | (with_reducible exact ih0 _ _ _)
      | (with_reducible exact ih1 _ _ _ _)
      | (with_reducible exact ih2 _ _ _ _)
      | (with_reducible exact ih3 _ _ _ _)
      | (with_reducible exact spec_ProfilesOk.mono _ _)
      | (with_reducible exact spec_l13Copy.mono _ _)
      | (with_reducible exact spec_l13Current.mono _ _ _ _)
      | (with_reducible exact spec_l13Find.mono _ _ _)
      | (with_reducible exact LeO.refl _)
      | (with_reducible exact LeO.none _)
      | (with_reducible refine LeO.ite ?_ ?_)
      | (with_reducible refine LeO.bind ?_ (fun _ => ?_))
      | exact ih0 _ _ _
      | exact ih1 _ _ _ _
      | exact ih2 _ _ _ _
      | exact ih3 _ _ _ _
      | exact spec_ProfilesOk.mono _ _
      | exact spec_l13Copy.mono _ _
      | exact spec_l13Current.mono _ _ _ _
      | exact spec_l13Find.mono _ _ _
      | exact LeO.none _
      | refine LeO.ite ?_ ?_
      | refine LeO.bind ?_ (fun _ => ?_)
    · intro y0 y1 y2 y3
      unfold spec_Switch.j3
      repeat' first
      | (with_reducible exact ih0 _ _ _)
      | (with_reducible exact ih1 _ _ _ _)
      | (with_reducible exact ih2 _ _ _ _)
      | (with_reducible exact ih3 _ _ _ _)
      | (with_reducible exact spec_ProfilesOk.mono _ _)
      | (with_reducible exact spec_l13Copy.mono _ _)
      | (with_reducible exact spec_l13Current.mono _ _ _ _)
      | (with_reducible exact spec_l13Find.mono _ _ _)
      | (with_reducible exact LeO.refl _)
      | (with_reducible exact LeO.none _)
      | (with_reducible refine LeO.ite ?_ ?_)
      | (with_reducible refine LeO.bind ?_ (fun _ => ?_))
      | exact ih0 _ _ _
      | exact ih1 _ _ _ _
      | exact ih2 _ _ _ _
      | exact ih3 _ _ _ _
      | exact spec_ProfilesOk.mono _ _
      | exact spec_l13Copy.mono _ _
      | exact spec_l13Current.mono _ _ _ _
      | exact spec_l13Find.mono _ _ _
      | exact LeO.none _
      | refine LeO.ite ?_ ?_
      | refine LeO.bind ?_ (fun _ => ?_)
    · intro y0 y1 y2 y3
      unfold spec_Switch.l0
      repeat' first
      | (with_reducible exact ih0 _ _ _)
      | (with_reducible exact ih1 _ _ _ _)
      | (with_reducible exact ih2 _ _ _ _)
      | (with_reducible exact ih3 _ _ _ _)
      | (with_reducible exact spec_ProfilesOk.mono _ _)
      | (with_reducible exact spec_l13Copy.mono _ _)
      | (with_reducible exact spec_l13Current.mono _ _ _ _)
      | (with_reducible exact spec_l13Find.mono _ _ _)
      | (with_reducible exact LeO.refl _)
      | (with_reducible exact LeO.none _)
      | (with_reducible refine LeO.ite ?_ ?_)
      | (with_reducible refine LeO.bind ?_ (fun _ => ?_))
      | exact ih0 _ _ _
      | exact ih1 _ _ _ _
      | exact ih2 _ _ _ _
      | exact ih3 _ _ _ _
      | exact spec_ProfilesOk.mono _ _
      | exact spec_l13Copy.mono _ _
      | exact spec_l13Current.mono _ _ _ _
      | exact spec_l13Find.mono _ _ _
      | exact LeO.none _
      | refine LeO.ite ?_ ?_
      | refine LeO.bind ?_ (fun _ => ?_)
theorem spec_Switch.mono : ∀ a0 a1 a2 k, LeO (spec_Switch.f k a0 a1 a2) (spec_Switch.f (k + 1) a0 a1 a2) := by
  intro a0 a1 a2 k
  obtain ⟨ih0, ih1, ih2, ih3⟩ := spec_Switch.mono_l a0 k
  unfold spec_Switch.f
  repeat' first
      | (with_reducible exact ih0 _ _ _)
      | (with_reducible exact ih1 _ _ _ _)
      | (with_reducible exact ih2 _ _ _ _)
      | (with_reducible exact ih3 _ _ _ _)
      | (with_reducible exact spec_ProfilesOk.mono _ _)
      | (with_reducible exact spec_l13Copy.mono _ _)
      | (with_reducible exact spec_l13Current.mono _ _ _ _)
      | (with_reducible exact spec_l13Find.mono _ _ _)
      | (with_reducible exact LeO.refl _)
      | (with_reducible exact LeO.none _)
      | (with_reducible refine LeO.ite ?_ ?_)
      | (with_reducible refine LeO.bind ?_ (fun _ => ?_))
      | exact ih0 _ _ _
      | exact ih1 _ _ _ _
      | exact ih2 _ _ _ _
      | exact ih3 _ _ _ _
      | exact spec_ProfilesOk.mono _ _
      | exact spec_l13Copy.mono _ _
      | exact spec_l13Current.mono _ _ _ _
      | exact spec_l13Find.mono _ _ _
      | exact LeO.none _
      | refine LeO.ite ?_ ?_
      | refine LeO.bind ?_ (fun _ => ?_)
def spec_Switch.T9 : Bool × List (List Nat × List Nat) := (true, [([], []), ([], []), ([], []), ([1, 2], [1, 2]), ([0, 3], [0, 3]), ([], []), ([5], [5]), ([6], [6]), ([4, 7, 4], [4, 7]), ([], []), ([], []), ([9, 10], [9, 10]), ([8, 11, 8], [8, 11]), ([12, 12, 0, 1, 2, 3, 4, 5, 6, 7, 8, 9, 10, 11, 12], [1, 9, 12])])
def spec_Switch.B9 : List Nat := [0, 0, 0, 6, 15, 0, 32, 96, 255, 0, 0, 1536, 4095, 8191]
theorem spec_Switch.tab9 : rtab .any (opsOf Try.f22 9) = spec_Switch.T9 := by kernel_rfl
theorem spec_Switch.bits9 : waitsOk spec_Switch.T9.2 spec_Switch.B9 = true := by kernel_rfl
set_option maxHeartbeats 16000000 in
set_option maxRecDepth 100000 in
theorem spec_Switch.calls (k : Nat) (A0 : Option Addr) (c0 : Nat) (l0 : List (S52)) (a1 : ByteArray) (a2 : ByteArray) (r1 : List (S52)) (r2 : Bool) (w : World) (hr0 : Kd.C k52 w A0 l0.length l0) (hc0 : l0.length ≤ c0) (h : spec_Switch.f k l0 a1 a2 = some (r1, r2)) :
  Calls Try.prog 22 #[.slice A0 l0.length c0, .string a1, .string a2] w fun e w' => ∃ v0_ : Value, e = .returned (.tuple #[v0_, .bool r2]) ∧ Kd.N k52 52 w' w.heap.size (fun k_ => (w.heap.size ≤ k_)) v0_ r1 ∧ Below w.heap.size w w' := by
 have hu52 := Try.underlying52
 have hu56 := Try.underlying56
 have HR0 := Aside0.mk hr0
 have HC0 := Aside0.mk hc0
 clear hr0 hc0
 have HB := Aside0.mk (Below.refl w.heap.size w)
 have H : ((spec_ProfilesOk.f k l0).bind fun t196 => (if t196 = true then ((spec_l13Copy.f k l0).bind fun t200 => ((spec_l13Find.f k t200 a1).bind fun t203 => (if t203 < 0 then (spec_Switch.l0 l0 k a1 a2 t200 0) else (spec_Switch.j1 l0 k a2 t200 t203)))) else (some ((([] : List (S52))), false)))) = some (r1, r2) := h
 clear h
 replace H := Option.bind_eq_some_iff.mp H
 obtain ⟨t196, A40, H⟩ := H
 replace H : (if t196 = true then ((spec_l13Copy.f k l0).bind fun t200 => ((spec_l13Find.f k t200 a1).bind fun t203 => (if t203 < 0 then (spec_Switch.l0 l0 k a1 a2 t200 0) else (spec_Switch.j1 l0 k a2 t200 t203)))) else (some ((([] : List (S52))), false))) = some (r1, r2) := H
 have A4 := Aside0.mk A40
 clear A40
 by_cases c5 : t196 = true
 ·subst c5
  have H1 : ((spec_l13Copy.f k l0).bind fun t200 => ((spec_l13Find.f k t200 a1).bind fun t203 => (if t203 < 0 then (spec_Switch.l0 l0 k a1 a2 t200 0) else (spec_Switch.j1 l0 k a2 t200 t203)))) = some (r1, r2) := by rw [if_pos rfl] at H; exact H
  clear H
  have H := H1
  clear H1
  replace H := Option.bind_eq_some_iff.mp H
  obtain ⟨t200, A60, H⟩ := H
  replace H : ((spec_l13Find.f k t200 a1).bind fun t203 => (if t203 < 0 then (spec_Switch.l0 l0 k a1 a2 t200 0) else (spec_Switch.j1 l0 k a2 t200 t203))) = some (r1, r2) := H
  have A6 := Aside0.mk A60
  clear A60
  replace H := Option.bind_eq_some_iff.mp H
  obtain ⟨t203, A70, H⟩ := H
  replace H : (if t203 < 0 then (spec_Switch.l0 l0 k a1 a2 t200 0) else (spec_Switch.j1 l0 k a2 t200 t203)) = some (r1, r2) := H
  have A7 := Aside0.mk A70
  clear A70
  have HC8 := Aside0.mk H
  clear H
  go_enter Try.func22, Try.ntmps22
  go_upto_if 23 with (first | ((with_reducible refine gate_callee (f := 10) rfl ?_); refine goesL_ (some 14) rfl rfl Try.func10 (by kernel_rfl) rfl #[.slice A0 l0.length c0] rfl (by (try simp only [List.map_toArray, List.map_cons, List.map_nil]); first | done | rfl | (simp only [List.length_drop, List.length_take]; rfl)) ?_; (with_reducible refine (spec_ProfilesOk.calls k _ _ l0 true _ ?side1 ?side2 A4.out).mono ?_); (case side1 => repeat (first | exact HR0.out | (with_reducible refine Kd.C_alloc ?_ _) | (with_reducible refine Kd.C_drewN ?_ _) | (with_reducible refine Kd.C_drew ?_))); (case side2 => exact HC0.out); rintro e w9 ⟨rfl, hb⟩; refine ⟨_, rfl, ?_⟩; have n0_ := Aside0.mk (below_step qB hb); clear HB; have HB := n0_; clear n0_; (try clear hb); (try clear hb2); (try clear hk); (try clear hi)) | ((with_reducible refine gate_callee (f := 41) rfl ?_); refine goesL_ (some 18) rfl rfl Try.func41 (by kernel_rfl) rfl #[.slice A0 l0.length c0] rfl (by (try simp only [List.map_toArray, List.map_cons, List.map_nil]); first | done | rfl | (simp only [List.length_drop, List.length_take]; rfl)) ?_; (with_reducible refine (spec_l13Copy.calls k _ _ l0 t200 _ ?side1 ?side2 A6.out).mono ?_); (case side1 => repeat (first | exact (Kd.C_below HR0.out HB.out) | (with_reducible refine Kd.C_alloc ?_ _) | (with_reducible refine Kd.C_drewN ?_ _) | (with_reducible refine Kd.C_drew ?_))); (case side2 => exact HC0.out); rintro e w10 ⟨v201, rfl, ho0, hb⟩; refine ⟨_, rfl, ?_⟩; have n0_ := Aside0.mk (Kd.N_lower (Kd.N_mono (ok' := fun k_ => (w.heap.size ≤ k_)) (Kd.S_N (Kd.S_bound ho0)) (fun k_ hk_ => (Nat.le_trans (below_size qB) hk_.2.1))) (below_size qB)); have n1_ := Aside0.mk (below_step qB hb); clear HB; have HO202 := n0_; have HB := n1_; clear n0_ n1_; (try clear hb); (try clear hb2); (try clear hk); (try clear hi); (try clear ho0); obtain ⟨Ao11, co11, eo11⟩ := Kd.N_slice HO202.out; subst eo11) | ((with_reducible refine gate_callee (f := 37) rfl ?_); refine goesL_ (some 21) rfl rfl Try.func37 (by kernel_rfl) rfl #[.slice Ao11 t200.length co11, .string a1] rfl (by (try simp only [List.map_toArray, List.map_cons, List.map_nil]); first | done | rfl | (simp only [List.length_drop, List.length_take]; rfl)) ?_; (with_reducible refine (spec_l13Find.calls k _ _ t200 a1 t203 _ ?side1 ?side2 A7.out).mono ?_); (case side1 => repeat (first | exact (Kd.N_reads' HO202.out).2.2 | (with_reducible refine Kd.C_alloc ?_ _) | (with_reducible refine Kd.C_drewN ?_ _) | (with_reducible refine Kd.C_drew ?_))); (case side2 => exact (Kd.N_reads' HO202.out).2.1); rintro e w' ⟨rfl, ⟨nd, rfl⟩⟩; refine ⟨_, rfl, ?_⟩))
  (try simp only [Act.put, List.setIfInBounds_toArray, List.set_cons_zero, List.set_cons_succ])
  go_cut [8, 9] (fun v8 v9 wc => ∃ (kq : Nat) (x8_7 : List (S52)) (x9_7 : Int), v9 = .int .i64 x9_7 ∧ Aside0 (spec_Switch.j1 l0 kq a2 x8_7 x9_7 = some (r1, r2)) ∧ Aside0 (kq ≤ k) ∧ Aside0 (Kd.N k52 52 wc w.heap.size (fun k_ => (w.heap.size ≤ k_)) v8 x8_7) ∧ Aside0 (Below w.heap.size w wc))
  case first =>
   have H := HC8.out
   clear HC8
   by_cases c12 : t203 < 0
   ·rw [if_pos c12] at H
    have c12b0 : decide (t203 < 0) = true := decide_eq_true c12
    clear c12
    (first | rw [c12b0] | (simp only [i64_w, i32_w]; rw [c12b0]) | skip)
    have H' := Aside0.mk H
    clear H
    go_wp2
    go_loopg [10] k (fun kq v10 w' => ∃ (x10_1 : Int), v10 = .int .i64 x10_1 ∧ Aside0 (spec_Switch.l0 l0 kq a1 a2 t200 x10_1 = some (r1, r2)) ∧ Aside0 (kq ≤ k) ∧ Aside0 (Kd.N k52 52 w' w.heap.size (fun k_ => (w.heap.size ≤ k_)) (.slice Ao11 t200.length co11) t200) ∧ Aside0 (Below w.heap.size w w'))
    case atStart => exact ⟨(0), (by first | rfl | (simp; done) | (simp [*]; done)), H', ⟨Nat.le_refl _⟩, ⟨by (with_reducible repeat (first | apply Kd.N_alloc | apply Kd.N_drewN | apply Kd.N_drew)); exact HO202.out⟩, ⟨by repeat (first | (with_reducible first | exact HB.out | apply below_alloc | apply pw_below_drewN | apply below_drew1) | exact HB.out)⟩⟩
    case round =>
     clear H'
     try clear c1
     try clear c2
     try clear p2
     try clear c3
     try clear c4
     try clear c5
     try clear c10
     try clear c12
     try clear c12b0
     obtain ⟨x10_1, rfl, HA, HK1, HO_8, HB⟩ := hrel
     cases gk with
     | zero => exact absurd HA.out (by simp [spec_Switch.l0])
     | succ k1 =>
      have H := HA.out
      clear HA
      simp only [spec_Switch.l0] at H
      by_cases c13 : x10_1 < (t200.length : Int)
      ·rw [if_pos c13] at H
       have c13b0 : decide (x10_1 < (t200.length : Int)) = true := decide_eq_true c13
       clear c13
       by_cases c14 : 0 ≤ x10_1
       ·rw [if_pos c14] at H
        have c14b0 : decide (0 ≤ x10_1) = true := decide_eq_true c14
        clear c14
        by_cases c15 : (Op.bytesLess (((rd_T52 t200 x10_1).f0).toList) a1.toList) = true
        ·rw [if_pos c15] at H
         have c15b0 : (Op.bytesLess (((rd_T52 t200 x10_1).f0).toList) a1.toList) = true := c15
         clear c15
         have H' := Aside0.mk H
         clear H
         have p204 : 0 ≤ (x10_1 : Int) := of_decide_eq_true (by first | (with_reducible assumption) | assumption)
         have q204 : x10_1 < (t200.length : Int) := of_decide_eq_true (by first | (with_reducible assumption) | assumption)
         obtain ⟨ad204, A204_2, c204_2, e204, hx204_0, hx204_1, hx204_2, hl204_2, hi204_2⟩ := at_T52 (Kd.N_reads' HO_8.out).2.2 x10_1 p204 q204
         cases e204
         obtain ⟨ce204, hce204, hMe204, hcc204⟩ := Kd.N_get HO_8.out z52 x10_1 p204 (by first | exact q204 | exact of_decide_eq_true (by first | (with_reducible assumption) | assumption) | (have e_ := (Kd.N_reads' HO_8.out).1; omega))
         obtain ⟨ua204_2, uc204_2, rfl, ul204_2, ge204_2⟩ := sw_k52_openF hMe204
         have hv204_2 := hcc204 2 _ rfl
         rw [add_field _ _ 2 (by omega)] at hv204_2
         replace hv204_2 := Option.some.inj (hv204_2.symm.trans hx204_2)
         injection hv204_2 with hva_ hvn_ hvc_
         rw [hva_] at ge204_2
         rw [hvc_] at ul204_2
         have HL204_2 := Aside0.mk (show Kd.V k56 56 _ w.heap.size _ _ ((rd_T52 t200 x10_1).f2) from Kd.V_mk ul204_2 ge204_2)
         clear hva_ hvn_ hvc_ ge204_2 ul204_2
         clear hcc204 hce204
         have HR204_2 := Aside0.mk hi204_2
         have HC204_2 := Aside0.mk hl204_2
         clear hi204_2 hl204_2
         replace p204 := eq_true p204
         replace q204 := eq_true q204
         go_wp2
         go_roundg k1
         case measure => have := HK1.out; omega
         case rel => exact ⟨(wrap64 (x10_1 + 1)), (by first | rfl | (simp; done) | (simp [*]; done)), H', ⟨by have := HK1.out; omega⟩, ⟨by (with_reducible repeat (first | apply Kd.N_alloc | apply Kd.N_drewN | apply Kd.N_drew)); exact HO_8.out⟩, ⟨by repeat (first | (with_reducible first | exact HB.out | apply below_alloc | apply pw_below_drewN | apply below_drew1) | exact HB.out)⟩⟩
        ·rw [if_neg c15] at H
         have c15b0 : (Op.bytesLess (((rd_T52 t200 x10_1).f0).toList) a1.toList) = false := by simpa using c15
         clear c15
         obtain ⟨y205, hy205⟩ : ∃ y_ : List (S52), y_ = (([] : List (S52))) := ⟨_, rfl⟩
         replace H : (if x10_1 ≤ (t200.length : Int) then ((some (t200.take (x10_1 : Int).toNat : List (S52))).bind fun y208 => (if y205.length + y208.length < 2932031007402 then ((some (y205 ++ y208 : List (S52))).bind fun y213 => ((some (([(⟨a1, 0, ([] : List (S56))⟩ : S52)] : List (S52)) : List (S52))).bind fun y216 => (if y213.length + y216.length < 2932031007402 then ((some (y213 ++ y216 : List (S52))).bind fun y219 => ((some (t200.drop (x10_1 : Int).toNat : List (S52))).bind fun y222 => (if y219.length + y222.length < 2932031007402 then (spec_Switch.j1 l0 k1 a2 (y219 ++ y222) x10_1) else (none)))) else (none)))) else (none))) else (none)) = some (r1, r2) := by first | (rw [hy205]; with_reducible exact H) | (have H2_ := (Option.bind_some _ _).symm.trans H; rw [hy205]; with_reducible exact H2_) | (have H2_ := (Option.bind_some _ _).symm.trans H; with_reducible exact H2_) | with_reducible exact H | (rw [hy205]; exact H) | exact H
         have Ny205 := Aside0.mk hy205
         clear hy205
         have c16b0 := eq_true (of_decide_eq_true (by first | (with_reducible assumption) | assumption) : 0 ≤ x10_1)
         by_cases c17 : x10_1 ≤ (t200.length : Int)
         ·rw [if_pos c17] at H
          have c17b0 := eq_true c17
          have c17b1 : decide (x10_1 ≤ (t200.length : Int)) = true := decide_eq_true c17
          clear c17
          obtain ⟨y208, hy208⟩ : ∃ y_ : List (S52), y_ = (t200.take (x10_1 : Int).toNat) := ⟨_, rfl⟩
          replace H : (if y205.length + y208.length < 2932031007402 then ((some (y205 ++ y208 : List (S52))).bind fun y213 => ((some (([(⟨a1, 0, ([] : List (S56))⟩ : S52)] : List (S52)) : List (S52))).bind fun y216 => (if y213.length + y216.length < 2932031007402 then ((some (y213 ++ y216 : List (S52))).bind fun y219 => ((some (t200.drop (x10_1 : Int).toNat : List (S52))).bind fun y222 => (if y219.length + y222.length < 2932031007402 then (spec_Switch.j1 l0 k1 a2 (y219 ++ y222) x10_1) else (none)))) else (none)))) else (none)) = some (r1, r2) := by first | (rw [hy208]; with_reducible exact H) | (have H2_ := (Option.bind_some _ _).symm.trans H; rw [hy208]; with_reducible exact H2_) | (have H2_ := (Option.bind_some _ _).symm.trans H; with_reducible exact H2_) | with_reducible exact H | (rw [hy208]; exact H) | exact H
          have Ny208 := Aside0.mk hy208
          clear hy208
          by_cases c18 : y205.length + y208.length < 2932031007402
          ·rw [if_pos c18] at H
           have LMc18 := Aside0.mk c18
           clear c18
           obtain ⟨y213, hy213⟩ : ∃ y_ : List (S52), y_ = (y205 ++ y208) := ⟨_, rfl⟩
           replace H : ((some (([(⟨a1, 0, ([] : List (S56))⟩ : S52)] : List (S52)) : List (S52))).bind fun y216 => (if y213.length + y216.length < 2932031007402 then ((some (y213 ++ y216 : List (S52))).bind fun y219 => ((some (t200.drop (x10_1 : Int).toNat : List (S52))).bind fun y222 => (if y219.length + y222.length < 2932031007402 then (spec_Switch.j1 l0 k1 a2 (y219 ++ y222) x10_1) else (none)))) else (none))) = some (r1, r2) := by first | (rw [hy213]; with_reducible exact H) | (have H2_ := (Option.bind_some _ _).symm.trans H; rw [hy213]; with_reducible exact H2_) | (have H2_ := (Option.bind_some _ _).symm.trans H; with_reducible exact H2_) | with_reducible exact H | (rw [hy213]; exact H) | exact H
           have Ny213 := Aside0.mk hy213
           clear hy213
           obtain ⟨y216, hy216⟩ : ∃ y_ : List (S52), y_ = (([(⟨a1, 0, ([] : List (S56))⟩ : S52)] : List (S52))) := ⟨_, rfl⟩
           replace H : (if y213.length + y216.length < 2932031007402 then ((some (y213 ++ y216 : List (S52))).bind fun y219 => ((some (t200.drop (x10_1 : Int).toNat : List (S52))).bind fun y222 => (if y219.length + y222.length < 2932031007402 then (spec_Switch.j1 l0 k1 a2 (y219 ++ y222) x10_1) else (none)))) else (none)) = some (r1, r2) := by first | (rw [hy216]; with_reducible exact H) | (have H2_ := (Option.bind_some _ _).symm.trans H; rw [hy216]; with_reducible exact H2_) | (have H2_ := (Option.bind_some _ _).symm.trans H; with_reducible exact H2_) | with_reducible exact H | (rw [hy216]; exact H) | exact H
           have Ny216 := Aside0.mk hy216
           clear hy216
           by_cases c19 : y213.length + y216.length < 2932031007402
           ·rw [if_pos c19] at H
            have LMc19 := Aside0.mk c19
            clear c19
            obtain ⟨y219, hy219⟩ : ∃ y_ : List (S52), y_ = (y213 ++ y216) := ⟨_, rfl⟩
            replace H : ((some (t200.drop (x10_1 : Int).toNat : List (S52))).bind fun y222 => (if y219.length + y222.length < 2932031007402 then (spec_Switch.j1 l0 k1 a2 (y219 ++ y222) x10_1) else (none))) = some (r1, r2) := by first | (rw [hy219]; with_reducible exact H) | (have H2_ := (Option.bind_some _ _).symm.trans H; rw [hy219]; with_reducible exact H2_) | (have H2_ := (Option.bind_some _ _).symm.trans H; with_reducible exact H2_) | with_reducible exact H | (rw [hy219]; exact H) | exact H
            have Ny219 := Aside0.mk hy219
            clear hy219
            have c20b0 := eq_true (of_decide_eq_true (by first | (with_reducible assumption) | assumption) : 0 ≤ x10_1)
            have c21b0 := eq_true (of_decide_eq_true (by first | (with_reducible assumption) | assumption) : x10_1 ≤ (t200.length : Int))
            obtain ⟨y222, hy222⟩ : ∃ y_ : List (S52), y_ = (t200.drop (x10_1 : Int).toNat) := ⟨_, rfl⟩
            replace H : (if y219.length + y222.length < 2932031007402 then (spec_Switch.j1 l0 k1 a2 (y219 ++ y222) x10_1) else (none)) = some (r1, r2) := by first | (rw [hy222]; with_reducible exact H) | (have H2_ := (Option.bind_some _ _).symm.trans H; rw [hy222]; with_reducible exact H2_) | (have H2_ := (Option.bind_some _ _).symm.trans H; with_reducible exact H2_) | with_reducible exact H | (rw [hy222]; exact H) | exact H
            have Ny222 := Aside0.mk hy222
            clear hy222
            by_cases c22 : y219.length + y222.length < 2932031007402
            ·rw [if_pos c22] at H
             have LMc22 := Aside0.mk c22
             clear c22
             obtain ⟨y227, hy227⟩ : ∃ y_ : List (S52), y_ = (y219 ++ y222) := ⟨_, rfl⟩
             replace H : (spec_Switch.j1 l0 k1 a2 y227 x10_1) = some (r1, r2) := by first | (rw [hy227]; with_reducible exact H) | (have H2_ := (Option.bind_some _ _).symm.trans H; rw [hy227]; with_reducible exact H2_) | (have H2_ := (Option.bind_some _ _).symm.trans H; with_reducible exact H2_) | with_reducible exact H | (rw [hy227]; exact H) | exact H
             have Ny227 := Aside0.mk hy227
             clear hy227
             have H' := Aside0.mk H
             clear H
             have p204 : 0 ≤ (x10_1 : Int) := of_decide_eq_true (by first | (with_reducible assumption) | assumption)
             have q204 : x10_1 < (t200.length : Int) := of_decide_eq_true (by first | (with_reducible assumption) | assumption)
             obtain ⟨ad204, A204_2, c204_2, e204, hx204_0, hx204_1, hx204_2, hl204_2, hi204_2⟩ := at_T52 (Kd.N_reads' HO_8.out).2.2 x10_1 p204 q204
             cases e204
             obtain ⟨ce204, hce204, hMe204, hcc204⟩ := Kd.N_get HO_8.out z52 x10_1 p204 (by first | exact q204 | exact of_decide_eq_true (by first | (with_reducible assumption) | assumption) | (have e_ := (Kd.N_reads' HO_8.out).1; omega))
             obtain ⟨ua204_2, uc204_2, rfl, ul204_2, ge204_2⟩ := sw_k52_openF hMe204
             have hv204_2 := hcc204 2 _ rfl
             rw [add_field _ _ 2 (by omega)] at hv204_2
             replace hv204_2 := Option.some.inj (hv204_2.symm.trans hx204_2)
             injection hv204_2 with hva_ hvn_ hvc_
             rw [hva_] at ge204_2
             rw [hvc_] at ul204_2
             have HL204_2 := Aside0.mk (show Kd.V k56 56 _ w.heap.size _ _ ((rd_T52 t200 x10_1).f2) from Kd.V_mk ul204_2 ge204_2)
             clear hva_ hvn_ hvc_ ge204_2 ul204_2
             clear hcc204 hce204
             have HR204_2 := Aside0.mk hi204_2
             have HC204_2 := Aside0.mk hl204_2
             clear hi204_2 hl204_2
             replace p204 := eq_true p204
             replace q204 := eq_true q204
             try go_wp2
             have n0_ := Aside0.mk (Kd.N_drew HO_8.out)
             have n1_ := Aside0.mk (Kd.V_drew HL204_2.out)
             have n2_ := Aside0.mk (Kd.C_drew HR204_2.out)
             have n3_ := Aside0.mk (below_drew1 HB.out)
             clear HO_8
             clear HL204_2
             clear HR204_2
             clear HB
             have HO_8 := n0_
             have HL204_2 := n1_
             have HR204_2 := n2_
             have HB := n3_
             clear n0_ n1_ n2_ n3_
             have q24 : (x10_1 : Int) ≤ ((t200.length : Int) : Int) := of_decide_eq_true (by first | (with_reducible assumption) | assumption)
             obtain ⟨i024, hi024, _, hsz24, _⟩ := info_parts info52
             have hroom24 : t200.length ≤ co11 := (Kd.N_reads' HO_8.out).2.1
             have hC24 : Kd.F k52 _ _ (some ad204) t200.length t200 := (Kd.V_at (base := w.heap.size) (Kd.N_V HO_8.out)).2.2
             have hcut24 := cut_to (P := Try.prog) 25 52 .i64 Try.underlying25 hi024 (some ad204) t200.length co11 x10_1 (of_decide_eq_true (by first | (with_reducible assumption) | assumption)) q24 hroom24
             have hr24 := Kd.F_take (m := (x10_1 : Int).toNat) hC24 (by omega)
             have hy24 : y208.length = (x10_1 : Int).toNat := (by rw [Ny208.out, List.length_take]; omega)
             rw [← Ny208.out] at hr24
             rw [← hy24] at hcut24
             have HO212 := Aside0.mk (show Kd.V k52 52 _ w.heap.size _ (.slice (some ad204) y208.length co11) y208 from Kd.V_mk (by omega) hr24)
             have HC212 := Aside0.mk (show y208.length ≤ co11 from by omega)
             clear hr24 hC24 hroom24 hi024 hsz24
             have KY24 := Aside0.mk hy24
             clear hy24
             replace q24 := eq_true q24
             have q25 : (x10_1 : Int) ≤ ((t200.length : Int) : Int) := of_decide_eq_true (by first | (with_reducible assumption) | assumption)
             obtain ⟨i025, hi025, _, hsz25, _⟩ := info_parts info52
             have hroom25 : t200.length ≤ co11 := (Kd.N_reads' HO_8.out).2.1
             have hC25 : Kd.F k52 _ _ (some ad204) t200.length t200 := (Kd.V_at (base := w.heap.size) (Kd.N_V HO_8.out)).2.2
             have q025 : (0 : Int) ≤ (x10_1 : Int) := of_decide_eq_true (by first | (with_reducible assumption) | assumption)
             have hcut25 := cut_from (P := Try.prog) 25 52 .i64 Try.underlying25 hi025 3 hsz25 (some ad204) t200.length co11 x10_1 q025 q25
             have hr25 := Kd.F_cut (m := (x10_1 : Int).toNat) (c := co11) hC25 (by omega) hroom25
             obtain ⟨A25, hA25⟩ : ∃ A1, A1 = (if co11 = (x10_1 : Int).toNat then (some ad204) else ((some ad204) : Option Addr).map (·.add ((x10_1 : Int).toNat * 3))) := ⟨_, rfl⟩
             obtain ⟨c25, hc25⟩ : ∃ c1, c1 = co11 - (x10_1 : Int).toNat := ⟨_, rfl⟩
             have hy25 : y222.length = t200.length - (x10_1 : Int).toNat := (by rw [Ny222.out, List.length_drop] <;> omega)
             rw [show (t200).drop (x10_1 : Int).toNat = y222 from Ny222.out.symm] at hr25
             replace hr25 : Kd.F k52 _ _ A25 y222.length y222 := (by rw [hA25]; exact hr25)
             rw [← hy25, ← hA25, ← hc25] at hcut25
             have HO226 := Aside0.mk (show Kd.V k52 52 _ w.heap.size _ (.slice A25 y222.length c25) y222 from Kd.V_mk (by rw [hy25, hc25]; exact Nat.sub_le_sub_right hroom25 _) hr25)
             have HC226 := Aside0.mk (show y222.length ≤ c25 from by rw [hy25, hc25]; exact Nat.sub_le_sub_right hroom25 _)
             clear hr25 hC25 hroom25 hi025 hsz25 hc25
             have KY25 := Aside0.mk hy25
             have KA25 := Aside0.mk hA25
             clear hy25 hA25
             replace q25 := eq_true q25
             refine start_ (n := 14) (S := fun w' => True) (ds := []) (tf 14 0) (by kernel_rfl) rfl rfl trivial (fun hHeld => ?_); refine with_tabW spec_Switch.tab9 spec_Switch.bits9 (fun HT_ HW_ => ?_)
             generalize wr.drew = w23 at HO_8 HL204_2 HR204_2 HB HO212 HO226 hHeld ⊢
             refine qA 1 40 (tf 14 2) ?_
             refine qA 2 41 (tf 14 6) ?_
             refine qA 3 42 (tf 14 14) ?_
             refine qA 5 44 (tf 14 46) ?_
             refine qA 6 45 (tf 14 110) ?_
             refine qA 9 48 (tf 14 622) ?_
             refine qA 10 49 (tf 14 1646) ?_
             refine qA 11 50 (tf 14 3694) ?_
             refine join_ (σ := Value × Value × Value) 3 (tf 14 3839) (fun s_ => [(39, s_.1), (43, s_.2.1), (46, s_.2.2)]) (fun s_ w' => (Kd.V k56 56 w' w.heap.size (fun k_ => (w.heap.size ≤ k_) ∧ some k_ ≠ (s_.2.1 : Value).ownBlock ∧ some k_ ≠ (s_.2.2 : Value).ownBlock ∧ some k_ ≠ (.slice (some ad204) t200.length co11 : Value).ownBlock) (.slice A204_2 ((rd_T52 t200 x10_1).f2).length c204_2) ((rd_T52 t200 x10_1).f2)) ∧ (Kd.V k52 52 w' w.heap.size (fun k_ => (w.heap.size ≤ k_) ∧ some k_ ≠ (s_.2.1 : Value).ownBlock ∧ some k_ ≠ (s_.2.2 : Value).ownBlock) (.slice (some ad204) y208.length co11) y208) ∧ (Kd.N k52 52 w' w.heap.size (fun k_ => (w.heap.size ≤ k_) ∧ some k_ ≠ (s_.2.2 : Value).ownBlock) s_.2.1 y213) ∧ (Kd.N k52 52 w' w.heap.size (fun k_ => (w.heap.size ≤ k_) ∧ some k_ ≠ (s_.2.1 : Value).ownBlock ∧ some k_ ≠ (.slice (some ad204) t200.length co11 : Value).ownBlock) s_.2.2 y216) ∧ (Kd.V k52 52 w' w.heap.size (fun k_ => (w.heap.size ≤ k_) ∧ some k_ ≠ (s_.2.1 : Value).ownBlock ∧ some k_ ≠ (s_.2.2 : Value).ownBlock) (.slice A25 y222.length c25) y222) ∧ (Kd.N k52 52 w' w.heap.size (fun k_ => (w.heap.size ≤ k_) ∧ some k_ ≠ (s_.2.1 : Value).ownBlock ∧ some k_ ≠ (s_.2.2 : Value).ownBlock) (.slice (some ad204) t200.length co11) t200) ∧ (Below w.heap.size w w')) ?_ ?_
             rotate_left
             ·intro hCont
              refine two_ (i := 0) (j := 7) (Ni := some 39) (Nj := some 46) (tf 14 3695) (tf 14 3822) rfl rfl rfl rfl (two_of HT_.out (by kernel_rfl)) (by decide) (by decide) (fun K hK => ?_) (fun K hK => ?_)
              ·skip
               refine Kd.N_lit_step k52 _ 52 ?hg (N' := 39) ?hd (xs := ([] : List (S52))) (inner := []) (ok := (fun k_ => (w.heap.size ≤ k_) ∧ some k_ ≠ (.slice (some ad204) t200.length co11 : Value).ownBlock)) (okp := (fun k_ => (w.heap.size ≤ k_) ∧ some k_ ≠ (.slice (some ad204) t200.length co11 : Value).ownBlock)) ?hr ?hp (fun _ hk => hk) ((show ∀ k_, w23.heap.size ≤ k_ → (fun k_ => (w.heap.size ≤ k_) ∧ some k_ ≠ (.slice (some ad204) t200.length co11 : Value).ownBlock) k_ from fun k_ hk => ⟨(Nat.le_trans (below_size qB) hk), Kd.fresh' (Kd.N_lt (by (with_reducible repeat (first | apply Kd.N_alloc | apply Kd.N_drewN | apply Kd.N_drew)); exact HO_8.out)) k_ hk⟩) _ (Nat.le_refl _)) (Below.refl _ _) (Nat.le_refl _) (by simp) ?_; (case hd => rfl); (case hg => rfl); (case hr => first | (go_simp; done) | (go_simp; rfl)); (case hp => exact (Reps.none _ _))
               intro v206 w26 ho27 hb hg_ hnew_
               clear hg_ hnew_
               (first | rw [← Ny205.out] at ho27 | (simp only [Int.reduceToNat] at ho27; rw [← Ny205.out] at ho27))
               have n0_ := Aside0.mk (Kd.N_elder' (by (with_reducible repeat (first | apply Kd.N_alloc | apply Kd.N_drewN | apply Kd.N_drew)); exact HO_8.out) (Kd.N_base ho27) hb)
               have n1_ := Aside0.mk (Kd.V_elder' (by (with_reducible repeat (first | apply Kd.V_alloc | apply Kd.V_drewN | apply Kd.V_drew)); exact HL204_2.out) (Kd.N_base ho27) hb)
               have n2_ := Aside0.mk (Kd.V_elder' (by (with_reducible repeat (first | apply Kd.V_alloc | apply Kd.V_drewN | apply Kd.V_drew)); exact HO212.out) (Kd.N_base ho27) hb)
               have n3_ := Aside0.mk (Kd.V_elder' (by (with_reducible repeat (first | apply Kd.V_alloc | apply Kd.V_drewN | apply Kd.V_drew)); exact HO226.out) (Kd.N_base ho27) hb)
               have n4_ := Aside0.mk (Kd.N_lower ho27 (below_size qB))
               have n5_ := Aside0.mk (Kd.C_below (by repeat (first | (with_reducible exact HR204_2.out) | (with_reducible refine Kd.C_alloc ?_ _) | (with_reducible refine Kd.C_drewN ?_ _) | (with_reducible refine Kd.C_drew ?_) | exact HR204_2.out)) hb)
               have n6_ := Aside0.mk (below_step qB hb)
               clear HO_8
               clear HL204_2
               clear HO212
               clear HO226
               clear HR204_2
               clear HB
               have HO_8 := n0_
               have HL204_2 := n1_
               have HO212 := n2_
               have HO226 := n3_
               have HO207 := n4_
               have HR204_2 := n5_
               have HB := n6_
               clear n0_ n1_ n2_ n3_ n4_ n5_ n6_
               clear hb ho27
               refine hK.out _ _ trivial (fun hHeld => ?_)
               clear hK K
               refine norm_ (a' := ?_) ?_ ?_
               rotate_left
               ·show Act.put _ (some 39) _ = _
                simp only [Act.put, sT, s0, sS, i64_w, i32_w]
                rfl
               refine two_ (i := 4) (j := 7) (Ni := some 43) (Nj := some 46) (tf 14 3711) (tf 14 3823) rfl rfl rfl rfl (two_of HT_.out (by kernel_rfl)) (by decide) (by decide) (fun K hK => ?_) (fun K hK => ?_)
               ·skip
                refine Kd.N_append_rows_step k52 (w0 := w) w.heap.size (by rfl) (.tmp 39) (.tmp 42) 25 52 (.agg #[(.string ⟨#[]⟩), (.int .i64 0), (.slice none 0 0)]) 48 rfl Try.underlying25 info52 rfl (by decide) (by omega) v206 y205 y208 _ _ _ (fun k_ => (w.heap.size ≤ k_)) (fun k_ => ((fun k_ => (w.heap.size ≤ k_))) k_ ∧ some k_ ≠ (v206 : Value).ownBlock) rfl rfl ?aO ?aR (fun _ hk => hk) ?aF ?aB ?aS ?aL ?_
                (case aR => exact (by skip; exact Kd.V_F (Kd.V_mono (ok' := (fun k_ => ((fun k_ => (w.heap.size ≤ k_))) k_ ∧ some k_ ≠ (v206 : Value).ownBlock)) (HO212.out) (fun k_ hk => ⟨hk.1, hk.2⟩))))
                (case aB => exact qB)
                (case aF => exact (fun k_ hk => (Nat.le_trans (below_size qB) hk)))
                (case aO => exact (by (with_reducible repeat (first | apply Kd.N_alloc | apply Kd.N_drewN | apply Kd.N_drew)); exact Kd.N_mono HO207.out (fun _ hk => hk.1)))
                (case aS => exact (below_size qB))
                (case aL => have := LMc18.out; omega)
                intro v214 w28 ho hb hg hat
                rw [← Ny213.out] at ho
                have n0_ := Aside0.mk (Kd.N_afterv (ok := (fun k_ => (w.heap.size ≤ k_))) (by (with_reducible repeat (first | apply Kd.N_alloc | apply Kd.N_drewN | apply Kd.N_drew)); exact HO_8.out) hg hat)
                have n1_ := Aside0.mk (Kd.V_afterv (ok := (fun k_ => (w.heap.size ≤ k_) ∧ some k_ ≠ (.slice (some ad204) t200.length co11 : Value).ownBlock)) (by (with_reducible repeat (first | apply Kd.V_alloc | apply Kd.V_drewN | apply Kd.V_drew)); exact HL204_2.out) hg hat)
                have n2_ := Aside0.mk (Kd.V_afterv (ok := (fun k_ => (w.heap.size ≤ k_))) (by (with_reducible repeat (first | apply Kd.V_alloc | apply Kd.V_drewN | apply Kd.V_drew)); exact HO212.out) hg hat)
                have n3_ := Aside0.mk (Kd.V_afterv (ok := (fun k_ => (w.heap.size ≤ k_))) (by (with_reducible repeat (first | apply Kd.V_alloc | apply Kd.V_drewN | apply Kd.V_drew)); exact HO226.out) hg hat)
                have n4_ := Aside0.mk (hb)
                have n5_ := Aside0.mk (ho)
                clear HO_8
                clear HL204_2
                clear HO212
                clear HO226
                clear HB
                clear HO207
                have HO_8 := n0_
                have HL204_2 := n1_
                have HO212 := n2_
                have HO226 := n3_
                have HB := n4_
                have HO215 := n5_
                clear n0_ n1_ n2_ n3_ n4_ n5_
                clear ho hb hg hat
                refine hK.out _ _ trivial (fun hHeld => ?_)
                clear hK K
                refine norm_ (a' := ?_) ?_ ?_
                rotate_left
                ·show Act.put _ (some 43) _ = _
                 simp only [Act.put, sT, s0, sS, i64_w, i32_w]
                 rfl
                refine one_ (i := 7) (N := some 46) (tf 14 3839) rfl rfl (one_of HT_.out (by kernel_rfl)) (by decide) (fun K hK => ?_)
                refine Kd.N_lit_step k52 _ 52 ?hg (N' := 46) ?hd (xs := ([(⟨a1, 0, ([] : List (S56))⟩ : S52)] : List (S52))) (inner := [.string a1, .int .i64 0, .slice none 0 0]) (ok := (fun k_ => (w.heap.size ≤ k_) ∧ some k_ ≠ (.slice (some ad204) t200.length co11 : Value).ownBlock ∧ some k_ ≠ (v214 : Value).ownBlock)) (okp := (fun k_ => (w.heap.size ≤ k_) ∧ some k_ ≠ (.slice (some ad204) t200.length co11 : Value).ownBlock ∧ some k_ ≠ (v214 : Value).ownBlock)) ?hr ?hp (fun _ hk => hk) ((show ∀ k_, w28.heap.size ≤ k_ → (fun k_ => (w.heap.size ≤ k_) ∧ some k_ ≠ (.slice (some ad204) t200.length co11 : Value).ownBlock ∧ some k_ ≠ (v214 : Value).ownBlock) k_ from fun k_ hk => ⟨(Nat.le_trans (below_size qB) hk), Kd.fresh' (Kd.N_lt (by (with_reducible repeat (first | apply Kd.N_alloc | apply Kd.N_drewN | apply Kd.N_drew)); exact HO_8.out)) k_ hk, Kd.fresh' (Kd.N_lt (by (with_reducible repeat (first | apply Kd.N_alloc | apply Kd.N_drewN | apply Kd.N_drew)); exact HO215.out)) k_ hk⟩) _ (Nat.le_refl _)) (Below.refl _ _) (Nat.le_refl _) (by simp) ?_; (case hd => rfl); (case hg => rfl); (case hr => first | (go_simp; done) | (go_simp; rfl)); (case hp => exact (Reps.c3 (show Kd.FK k52 _ _ (⟨a1, 0, ([] : List (S56))⟩ : S52) [.string a1, .int .i64 0, .slice none 0 0] from (sw_k52_mkF _ _ (⟨a1, 0, ([] : List (S56))⟩ : S52) (Nat.le_refl _) (Kd.F_nil _ _ _))) (Reps.none _ _)))
                intro v217 w29 ho30 hb hg_ hnew_
                clear hg_ hnew_
                (first | rw [← Ny216.out] at ho30 | (simp only [Int.reduceToNat] at ho30; rw [← Ny216.out] at ho30))
                have n0_ := Aside0.mk (Kd.N_elder' (by (with_reducible repeat (first | apply Kd.N_alloc | apply Kd.N_drewN | apply Kd.N_drew)); exact HO_8.out) (Kd.N_base ho30) hb)
                have n1_ := Aside0.mk (Kd.V_elder' (by (with_reducible repeat (first | apply Kd.V_alloc | apply Kd.V_drewN | apply Kd.V_drew)); exact HL204_2.out) (Kd.N_base ho30) hb)
                have n2_ := Aside0.mk (Kd.V_elder' (by (with_reducible repeat (first | apply Kd.V_alloc | apply Kd.V_drewN | apply Kd.V_drew)); exact HO212.out) (Kd.N_base ho30) hb)
                have n3_ := Aside0.mk (Kd.V_elder' (by (with_reducible repeat (first | apply Kd.V_alloc | apply Kd.V_drewN | apply Kd.V_drew)); exact HO226.out) (Kd.N_base ho30) hb)
                have n4_ := Aside0.mk (Kd.N_elder' (by (with_reducible repeat (first | apply Kd.N_alloc | apply Kd.N_drewN | apply Kd.N_drew)); exact HO215.out) (Kd.N_base ho30) hb)
                have n5_ := Aside0.mk (Kd.N_lower ho30 (below_size qB))
                have n6_ := Aside0.mk (below_step qB hb)
                clear HO_8
                clear HL204_2
                clear HO212
                clear HO226
                clear HO215
                clear HB
                have HO_8 := n0_
                have HL204_2 := n1_
                have HO212 := n2_
                have HO226 := n3_
                have HO215 := n4_
                have HO218 := n5_
                have HB := n6_
                clear n0_ n1_ n2_ n3_ n4_ n5_ n6_
                clear hb ho30
                refine hK.out _ _ trivial (fun hHeld => ?_)
                clear hK K
                refine norm_ (a' := ?_) ?_ ?_
                rotate_left
                ·show Act.put _ (some 46) _ = _
                 simp only [Act.put, sT, s0, sS, i64_w, i32_w]
                 rfl
                exact norm_ (by simp only [putAll, Act.put, List.setIfInBounds_toArray, List.set_cons_zero, List.set_cons_succ]) (hCont (v206, v214, v217) _ ⟨(by (with_reducible repeat (first | apply Kd.V_alloc | apply Kd.V_drewN | apply Kd.V_drew)); exact Kd.V_mono HL204_2.out (fun _ hk => ⟨hk.1.1.1, ⟨hk.1.2, ⟨hk.2, hk.1.1.2⟩⟩⟩)), (by (with_reducible repeat (first | apply Kd.V_alloc | apply Kd.V_drewN | apply Kd.V_drew)); exact Kd.V_mono HO212.out (fun _ hk => ⟨hk.1.1, ⟨hk.1.2, hk.2⟩⟩)), (by (with_reducible repeat (first | apply Kd.N_alloc | apply Kd.N_drewN | apply Kd.N_drew)); exact HO215.out), (by (with_reducible repeat (first | apply Kd.N_alloc | apply Kd.N_drewN | apply Kd.N_drew)); exact Kd.N_mono HO218.out (fun _ hk => ⟨hk.1, ⟨hk.2.2, hk.2.1⟩⟩)), (by (with_reducible repeat (first | apply Kd.V_alloc | apply Kd.V_drewN | apply Kd.V_drew)); exact Kd.V_mono HO226.out (fun _ hk => ⟨hk.1.1, ⟨hk.1.2, hk.2⟩⟩)), (by (with_reducible repeat (first | apply Kd.N_alloc | apply Kd.N_drewN | apply Kd.N_drew)); exact Kd.N_mono HO_8.out (fun _ hk => ⟨hk.1.1, ⟨hk.1.2, hk.2⟩⟩)), qB⟩)
               ·skip
                refine Kd.N_lit_step k52 _ 52 ?hg (N' := 46) ?hd (xs := ([(⟨a1, 0, ([] : List (S56))⟩ : S52)] : List (S52))) (inner := [.string a1, .int .i64 0, .slice none 0 0]) (ok := (fun k_ => (w.heap.size ≤ k_) ∧ some k_ ≠ (.slice (some ad204) t200.length co11 : Value).ownBlock ∧ some k_ ≠ (v206 : Value).ownBlock)) (okp := (fun k_ => (w.heap.size ≤ k_) ∧ some k_ ≠ (.slice (some ad204) t200.length co11 : Value).ownBlock ∧ some k_ ≠ (v206 : Value).ownBlock)) ?hr ?hp (fun _ hk => hk) ((show ∀ k_, w26.heap.size ≤ k_ → (fun k_ => (w.heap.size ≤ k_) ∧ some k_ ≠ (.slice (some ad204) t200.length co11 : Value).ownBlock ∧ some k_ ≠ (v206 : Value).ownBlock) k_ from fun k_ hk => ⟨(Nat.le_trans (below_size qB) hk), Kd.fresh' (Kd.N_lt (by (with_reducible repeat (first | apply Kd.N_alloc | apply Kd.N_drewN | apply Kd.N_drew)); exact HO_8.out)) k_ hk, Kd.fresh' (Kd.N_lt (by (with_reducible repeat (first | apply Kd.N_alloc | apply Kd.N_drewN | apply Kd.N_drew)); exact HO207.out)) k_ hk⟩) _ (Nat.le_refl _)) (Below.refl _ _) (Nat.le_refl _) (by simp) ?_; (case hd => rfl); (case hg => rfl); (case hr => first | (go_simp; done) | (go_simp; rfl)); (case hp => exact (Reps.c3 (show Kd.FK k52 _ _ (⟨a1, 0, ([] : List (S56))⟩ : S52) [.string a1, .int .i64 0, .slice none 0 0] from (sw_k52_mkF _ _ (⟨a1, 0, ([] : List (S56))⟩ : S52) (Nat.le_refl _) (Kd.F_nil _ _ _))) (Reps.none _ _)))
                intro v217 w28 ho29 hb hg_ hnew_
                clear hg_ hnew_
                (first | rw [← Ny216.out] at ho29 | (simp only [Int.reduceToNat] at ho29; rw [← Ny216.out] at ho29))
                have n0_ := Aside0.mk (Kd.N_elder' (by (with_reducible repeat (first | apply Kd.N_alloc | apply Kd.N_drewN | apply Kd.N_drew)); exact HO_8.out) (Kd.N_base ho29) hb)
                have n1_ := Aside0.mk (Kd.V_elder' (by (with_reducible repeat (first | apply Kd.V_alloc | apply Kd.V_drewN | apply Kd.V_drew)); exact HL204_2.out) (Kd.N_base ho29) hb)
                have n2_ := Aside0.mk (Kd.V_elder' (by (with_reducible repeat (first | apply Kd.V_alloc | apply Kd.V_drewN | apply Kd.V_drew)); exact HO212.out) (Kd.N_base ho29) hb)
                have n3_ := Aside0.mk (Kd.V_elder' (by (with_reducible repeat (first | apply Kd.V_alloc | apply Kd.V_drewN | apply Kd.V_drew)); exact HO226.out) (Kd.N_base ho29) hb)
                have n4_ := Aside0.mk (Kd.N_elder' (by (with_reducible repeat (first | apply Kd.N_alloc | apply Kd.N_drewN | apply Kd.N_drew)); exact HO207.out) (Kd.N_base ho29) hb)
                have n5_ := Aside0.mk (Kd.N_lower ho29 (below_size qB))
                have n6_ := Aside0.mk (Kd.C_below (by repeat (first | (with_reducible exact HR204_2.out) | (with_reducible refine Kd.C_alloc ?_ _) | (with_reducible refine Kd.C_drewN ?_ _) | (with_reducible refine Kd.C_drew ?_) | exact HR204_2.out)) hb)
                have n7_ := Aside0.mk (below_step qB hb)
                clear HO_8
                clear HL204_2
                clear HO212
                clear HO226
                clear HO207
                clear HR204_2
                clear HB
                have HO_8 := n0_
                have HL204_2 := n1_
                have HO212 := n2_
                have HO226 := n3_
                have HO207 := n4_
                have HO218 := n5_
                have HR204_2 := n6_
                have HB := n7_
                clear n0_ n1_ n2_ n3_ n4_ n5_ n6_ n7_
                clear hb ho29
                refine hK.out _ _ trivial (fun hHeld => ?_)
                clear hK K
                refine norm_ (a' := ?_) ?_ ?_
                rotate_left
                ·show Act.put _ (some 46) _ = _
                 simp only [Act.put, sT, s0, sS, i64_w, i32_w]
                 rfl
                refine one_ (i := 4) (N := some 43) (tf 14 3839) rfl rfl (one_of HT_.out (by kernel_rfl)) (by decide) (fun K hK => ?_)
                refine Kd.N_append_rows_step k52 (w0 := w) w.heap.size (by rfl) (.tmp 39) (.tmp 42) 25 52 (.agg #[(.string ⟨#[]⟩), (.int .i64 0), (.slice none 0 0)]) 48 rfl Try.underlying25 info52 rfl (by decide) (by omega) v206 y205 y208 _ _ _ (fun k_ => (w.heap.size ≤ k_) ∧ some k_ ≠ (v217 : Value).ownBlock) (fun k_ => ((fun k_ => (w.heap.size ≤ k_) ∧ some k_ ≠ (v217 : Value).ownBlock)) k_ ∧ some k_ ≠ (v206 : Value).ownBlock) rfl rfl ?aO ?aR (fun _ hk => hk) ?aF ?aB ?aS ?aL ?_
                (case aR => exact (by skip; exact Kd.V_F (Kd.V_mono (ok' := (fun k_ => ((fun k_ => (w.heap.size ≤ k_) ∧ some k_ ≠ (v217 : Value).ownBlock)) k_ ∧ some k_ ≠ (v206 : Value).ownBlock)) (HO212.out) (fun k_ hk => ⟨⟨hk.1.1, hk.2⟩, hk.1.2⟩))))
                (case aB => exact qB)
                (case aF => exact (fun k_ hk => ⟨(Nat.le_trans (below_size qB) hk), Kd.fresh' (Kd.N_lt (by (with_reducible repeat (first | apply Kd.N_alloc | apply Kd.N_drewN | apply Kd.N_drew)); exact HO218.out)) k_ hk⟩))
                (case aO => exact (by (with_reducible repeat (first | apply Kd.N_alloc | apply Kd.N_drewN | apply Kd.N_drew)); exact Kd.N_mono HO207.out (fun _ hk => ⟨hk.1.1, hk.2⟩)))
                (case aS => exact (below_size qB))
                (case aL => have := LMc18.out; omega)
                intro v214 w30 ho hb hg hat
                rw [← Ny213.out] at ho
                have n0_ := Aside0.mk (Kd.N_afterv (ok := (fun k_ => (w.heap.size ≤ k_) ∧ some k_ ≠ (v217 : Value).ownBlock)) (by (with_reducible repeat (first | apply Kd.N_alloc | apply Kd.N_drewN | apply Kd.N_drew)); exact Kd.N_mono HO_8.out (fun _ hk => ⟨⟨hk.1.1, hk.2⟩, hk.1.2⟩)) hg hat)
                have n1_ := Aside0.mk (Kd.V_afterv (ok := (fun k_ => (w.heap.size ≤ k_) ∧ some k_ ≠ (.slice (some ad204) t200.length co11 : Value).ownBlock ∧ some k_ ≠ (v217 : Value).ownBlock)) (by (with_reducible repeat (first | apply Kd.V_alloc | apply Kd.V_drewN | apply Kd.V_drew)); exact Kd.V_mono HL204_2.out (fun _ hk => ⟨⟨hk.1.1.1, ⟨hk.1.1.2, hk.2⟩⟩, hk.1.2⟩)) hg hat)
                have n2_ := Aside0.mk (Kd.V_afterv (ok := (fun k_ => (w.heap.size ≤ k_) ∧ some k_ ≠ (v217 : Value).ownBlock)) (by (with_reducible repeat (first | apply Kd.V_alloc | apply Kd.V_drewN | apply Kd.V_drew)); exact Kd.V_mono HO212.out (fun _ hk => ⟨⟨hk.1.1, hk.2⟩, hk.1.2⟩)) hg hat)
                have n3_ := Aside0.mk (Kd.V_afterv (ok := (fun k_ => (w.heap.size ≤ k_) ∧ some k_ ≠ (v217 : Value).ownBlock)) (by (with_reducible repeat (first | apply Kd.V_alloc | apply Kd.V_drewN | apply Kd.V_drew)); exact Kd.V_mono HO226.out (fun _ hk => ⟨⟨hk.1.1, hk.2⟩, hk.1.2⟩)) hg hat)
                have n4_ := Aside0.mk (Kd.N_afterv (ok := (fun k_ => (w.heap.size ≤ k_) ∧ some k_ ≠ (.slice (some ad204) t200.length co11 : Value).ownBlock)) (by (with_reducible repeat (first | apply Kd.N_alloc | apply Kd.N_drewN | apply Kd.N_drew)); exact Kd.N_mono HO218.out (fun _ hk => ⟨⟨hk.1, hk.2.1⟩, hk.2.2⟩)) hg hat)
                have n5_ := Aside0.mk (hb)
                have n6_ := Aside0.mk (ho)
                clear HO_8
                clear HL204_2
                clear HO212
                clear HO226
                clear HO218
                clear HB
                clear HO207
                have HO_8 := n0_
                have HL204_2 := n1_
                have HO212 := n2_
                have HO226 := n3_
                have HO218 := n4_
                have HB := n5_
                have HO215 := n6_
                clear n0_ n1_ n2_ n3_ n4_ n5_ n6_
                clear ho hb hg hat
                refine hK.out _ _ trivial (fun hHeld => ?_)
                clear hK K
                refine norm_ (a' := ?_) ?_ ?_
                rotate_left
                ·show Act.put _ (some 43) _ = _
                 simp only [Act.put, sT, s0, sS, i64_w, i32_w]
                 rfl
                exact norm_ (by simp only [putAll, Act.put, List.setIfInBounds_toArray, List.set_cons_zero, List.set_cons_succ]) (hCont (v206, v214, v217) _ ⟨(by (with_reducible repeat (first | apply Kd.V_alloc | apply Kd.V_drewN | apply Kd.V_drew)); exact Kd.V_mono HL204_2.out (fun _ hk => ⟨hk.1.1, ⟨hk.2, ⟨hk.1.2.2, hk.1.2.1⟩⟩⟩)), (by (with_reducible repeat (first | apply Kd.V_alloc | apply Kd.V_drewN | apply Kd.V_drew)); exact Kd.V_mono HO212.out (fun _ hk => ⟨hk.1.1, ⟨hk.2, hk.1.2⟩⟩)), (by (with_reducible repeat (first | apply Kd.N_alloc | apply Kd.N_drewN | apply Kd.N_drew)); exact HO215.out), (by (with_reducible repeat (first | apply Kd.N_alloc | apply Kd.N_drewN | apply Kd.N_drew)); exact Kd.N_mono HO218.out (fun _ hk => ⟨hk.1.1, ⟨hk.2, hk.1.2⟩⟩)), (by (with_reducible repeat (first | apply Kd.V_alloc | apply Kd.V_drewN | apply Kd.V_drew)); exact Kd.V_mono HO226.out (fun _ hk => ⟨hk.1.1, ⟨hk.2, hk.1.2⟩⟩)), (by (with_reducible repeat (first | apply Kd.N_alloc | apply Kd.N_drewN | apply Kd.N_drew)); exact Kd.N_mono HO_8.out (fun _ hk => ⟨hk.1.1, ⟨hk.2, hk.1.2⟩⟩)), qB⟩)
              ·skip
               refine Kd.N_lit_step k52 _ 52 ?hg (N' := 46) ?hd (xs := ([(⟨a1, 0, ([] : List (S56))⟩ : S52)] : List (S52))) (inner := [.string a1, .int .i64 0, .slice none 0 0]) (ok := (fun k_ => (w.heap.size ≤ k_) ∧ some k_ ≠ (.slice (some ad204) t200.length co11 : Value).ownBlock)) (okp := (fun k_ => (w.heap.size ≤ k_) ∧ some k_ ≠ (.slice (some ad204) t200.length co11 : Value).ownBlock)) ?hr ?hp (fun _ hk => hk) ((show ∀ k_, w23.heap.size ≤ k_ → (fun k_ => (w.heap.size ≤ k_) ∧ some k_ ≠ (.slice (some ad204) t200.length co11 : Value).ownBlock) k_ from fun k_ hk => ⟨(Nat.le_trans (below_size qB) hk), Kd.fresh' (Kd.N_lt (by (with_reducible repeat (first | apply Kd.N_alloc | apply Kd.N_drewN | apply Kd.N_drew)); exact HO_8.out)) k_ hk⟩) _ (Nat.le_refl _)) (Below.refl _ _) (Nat.le_refl _) (by simp) ?_; (case hd => rfl); (case hg => rfl); (case hr => first | (go_simp; done) | (go_simp; rfl)); (case hp => exact (Reps.c3 (show Kd.FK k52 _ _ (⟨a1, 0, ([] : List (S56))⟩ : S52) [.string a1, .int .i64 0, .slice none 0 0] from (sw_k52_mkF _ _ (⟨a1, 0, ([] : List (S56))⟩ : S52) (Nat.le_refl _) (Kd.F_nil _ _ _))) (Reps.none _ _)))
               intro v217 w26 ho27 hb hg_ hnew_
               clear hg_ hnew_
               (first | rw [← Ny216.out] at ho27 | (simp only [Int.reduceToNat] at ho27; rw [← Ny216.out] at ho27))
               have n0_ := Aside0.mk (Kd.N_elder' (by (with_reducible repeat (first | apply Kd.N_alloc | apply Kd.N_drewN | apply Kd.N_drew)); exact HO_8.out) (Kd.N_base ho27) hb)
               have n1_ := Aside0.mk (Kd.V_elder' (by (with_reducible repeat (first | apply Kd.V_alloc | apply Kd.V_drewN | apply Kd.V_drew)); exact HL204_2.out) (Kd.N_base ho27) hb)
               have n2_ := Aside0.mk (Kd.V_elder' (by (with_reducible repeat (first | apply Kd.V_alloc | apply Kd.V_drewN | apply Kd.V_drew)); exact HO212.out) (Kd.N_base ho27) hb)
               have n3_ := Aside0.mk (Kd.V_elder' (by (with_reducible repeat (first | apply Kd.V_alloc | apply Kd.V_drewN | apply Kd.V_drew)); exact HO226.out) (Kd.N_base ho27) hb)
               have n4_ := Aside0.mk (Kd.N_lower ho27 (below_size qB))
               have n5_ := Aside0.mk (Kd.C_below (by repeat (first | (with_reducible exact HR204_2.out) | (with_reducible refine Kd.C_alloc ?_ _) | (with_reducible refine Kd.C_drewN ?_ _) | (with_reducible refine Kd.C_drew ?_) | exact HR204_2.out)) hb)
               have n6_ := Aside0.mk (below_step qB hb)
               clear HO_8
               clear HL204_2
               clear HO212
               clear HO226
               clear HR204_2
               clear HB
               have HO_8 := n0_
               have HL204_2 := n1_
               have HO212 := n2_
               have HO226 := n3_
               have HO218 := n4_
               have HR204_2 := n5_
               have HB := n6_
               clear n0_ n1_ n2_ n3_ n4_ n5_ n6_
               clear hb ho27
               refine hK.out _ _ trivial (fun hHeld => ?_)
               clear hK K
               refine norm_ (a' := ?_) ?_ ?_
               rotate_left
               ·show Act.put _ (some 46) _ = _
                simp only [Act.put, sT, s0, sS, i64_w, i32_w]
                rfl
               refine one_ (i := 0) (N := some 39) (tf 14 3823) rfl rfl (one_of HT_.out (by kernel_rfl)) (by decide) (fun K hK => ?_)
               refine Kd.N_lit_step k52 _ 52 ?hg (N' := 39) ?hd (xs := ([] : List (S52))) (inner := []) (ok := (fun k_ => (w.heap.size ≤ k_) ∧ some k_ ≠ (.slice (some ad204) t200.length co11 : Value).ownBlock ∧ some k_ ≠ (v217 : Value).ownBlock)) (okp := (fun k_ => (w.heap.size ≤ k_) ∧ some k_ ≠ (.slice (some ad204) t200.length co11 : Value).ownBlock ∧ some k_ ≠ (v217 : Value).ownBlock)) ?hr ?hp (fun _ hk => hk) ((show ∀ k_, w26.heap.size ≤ k_ → (fun k_ => (w.heap.size ≤ k_) ∧ some k_ ≠ (.slice (some ad204) t200.length co11 : Value).ownBlock ∧ some k_ ≠ (v217 : Value).ownBlock) k_ from fun k_ hk => ⟨(Nat.le_trans (below_size qB) hk), Kd.fresh' (Kd.N_lt (by (with_reducible repeat (first | apply Kd.N_alloc | apply Kd.N_drewN | apply Kd.N_drew)); exact HO_8.out)) k_ hk, Kd.fresh' (Kd.N_lt (by (with_reducible repeat (first | apply Kd.N_alloc | apply Kd.N_drewN | apply Kd.N_drew)); exact HO218.out)) k_ hk⟩) _ (Nat.le_refl _)) (Below.refl _ _) (Nat.le_refl _) (by simp) ?_; (case hd => rfl); (case hg => rfl); (case hr => first | (go_simp; done) | (go_simp; rfl)); (case hp => exact (Reps.none _ _))
               intro v206 w28 ho29 hb hg_ hnew_
               clear hg_ hnew_
               (first | rw [← Ny205.out] at ho29 | (simp only [Int.reduceToNat] at ho29; rw [← Ny205.out] at ho29))
               have n0_ := Aside0.mk (Kd.N_elder' (by (with_reducible repeat (first | apply Kd.N_alloc | apply Kd.N_drewN | apply Kd.N_drew)); exact HO_8.out) (Kd.N_base ho29) hb)
               have n1_ := Aside0.mk (Kd.V_elder' (by (with_reducible repeat (first | apply Kd.V_alloc | apply Kd.V_drewN | apply Kd.V_drew)); exact HL204_2.out) (Kd.N_base ho29) hb)
               have n2_ := Aside0.mk (Kd.V_elder' (by (with_reducible repeat (first | apply Kd.V_alloc | apply Kd.V_drewN | apply Kd.V_drew)); exact HO212.out) (Kd.N_base ho29) hb)
               have n3_ := Aside0.mk (Kd.V_elder' (by (with_reducible repeat (first | apply Kd.V_alloc | apply Kd.V_drewN | apply Kd.V_drew)); exact HO226.out) (Kd.N_base ho29) hb)
               have n4_ := Aside0.mk (Kd.N_elder' (by (with_reducible repeat (first | apply Kd.N_alloc | apply Kd.N_drewN | apply Kd.N_drew)); exact HO218.out) (Kd.N_base ho29) hb)
               have n5_ := Aside0.mk (Kd.N_lower ho29 (below_size qB))
               have n6_ := Aside0.mk (Kd.C_below (by repeat (first | (with_reducible exact HR204_2.out) | (with_reducible refine Kd.C_alloc ?_ _) | (with_reducible refine Kd.C_drewN ?_ _) | (with_reducible refine Kd.C_drew ?_) | exact HR204_2.out)) hb)
               have n7_ := Aside0.mk (below_step qB hb)
               clear HO_8
               clear HL204_2
               clear HO212
               clear HO226
               clear HO218
               clear HR204_2
               clear HB
               have HO_8 := n0_
               have HL204_2 := n1_
               have HO212 := n2_
               have HO226 := n3_
               have HO218 := n4_
               have HO207 := n5_
               have HR204_2 := n6_
               have HB := n7_
               clear n0_ n1_ n2_ n3_ n4_ n5_ n6_ n7_
               clear hb ho29
               refine hK.out _ _ trivial (fun hHeld => ?_)
               clear hK K
               refine norm_ (a' := ?_) ?_ ?_
               rotate_left
               ·show Act.put _ (some 39) _ = _
                simp only [Act.put, sT, s0, sS, i64_w, i32_w]
                rfl
               refine one_ (i := 4) (N := some 43) (tf 14 3839) rfl rfl (one_of HT_.out (by kernel_rfl)) (by decide) (fun K hK => ?_)
               refine Kd.N_append_rows_step k52 (w0 := w) w.heap.size (by rfl) (.tmp 39) (.tmp 42) 25 52 (.agg #[(.string ⟨#[]⟩), (.int .i64 0), (.slice none 0 0)]) 48 rfl Try.underlying25 info52 rfl (by decide) (by omega) v206 y205 y208 _ _ _ (fun k_ => (w.heap.size ≤ k_) ∧ some k_ ≠ (v217 : Value).ownBlock) (fun k_ => ((fun k_ => (w.heap.size ≤ k_) ∧ some k_ ≠ (v217 : Value).ownBlock)) k_ ∧ some k_ ≠ (v206 : Value).ownBlock) rfl rfl ?aO ?aR (fun _ hk => hk) ?aF ?aB ?aS ?aL ?_
               (case aR => exact (by skip; exact Kd.V_F (Kd.V_mono (ok' := (fun k_ => ((fun k_ => (w.heap.size ≤ k_) ∧ some k_ ≠ (v217 : Value).ownBlock)) k_ ∧ some k_ ≠ (v206 : Value).ownBlock)) (HO212.out) (fun k_ hk => ⟨⟨hk.1.1, hk.1.2⟩, hk.2⟩))))
               (case aB => exact qB)
               (case aF => exact (fun k_ hk => ⟨(Nat.le_trans (below_size qB) hk), Kd.fresh' (Kd.N_lt (by (with_reducible repeat (first | apply Kd.N_alloc | apply Kd.N_drewN | apply Kd.N_drew)); exact HO218.out)) k_ hk⟩))
               (case aO => exact (by (with_reducible repeat (first | apply Kd.N_alloc | apply Kd.N_drewN | apply Kd.N_drew)); exact Kd.N_mono HO207.out (fun _ hk => ⟨hk.1, hk.2.2⟩)))
               (case aS => exact (below_size qB))
               (case aL => have := LMc18.out; omega)
               intro v214 w30 ho hb hg hat
               rw [← Ny213.out] at ho
               have n0_ := Aside0.mk (Kd.N_afterv (ok := (fun k_ => (w.heap.size ≤ k_) ∧ some k_ ≠ (v217 : Value).ownBlock)) (by (with_reducible repeat (first | apply Kd.N_alloc | apply Kd.N_drewN | apply Kd.N_drew)); exact HO_8.out) hg hat)
               have n1_ := Aside0.mk (Kd.V_afterv (ok := (fun k_ => (w.heap.size ≤ k_) ∧ some k_ ≠ (.slice (some ad204) t200.length co11 : Value).ownBlock ∧ some k_ ≠ (v217 : Value).ownBlock)) (by (with_reducible repeat (first | apply Kd.V_alloc | apply Kd.V_drewN | apply Kd.V_drew)); exact Kd.V_mono HL204_2.out (fun _ hk => ⟨⟨hk.1.1.1, ⟨hk.1.1.2, hk.1.2⟩⟩, hk.2⟩)) hg hat)
               have n2_ := Aside0.mk (Kd.V_afterv (ok := (fun k_ => (w.heap.size ≤ k_) ∧ some k_ ≠ (v217 : Value).ownBlock)) (by (with_reducible repeat (first | apply Kd.V_alloc | apply Kd.V_drewN | apply Kd.V_drew)); exact HO212.out) hg hat)
               have n3_ := Aside0.mk (Kd.V_afterv (ok := (fun k_ => (w.heap.size ≤ k_) ∧ some k_ ≠ (v217 : Value).ownBlock)) (by (with_reducible repeat (first | apply Kd.V_alloc | apply Kd.V_drewN | apply Kd.V_drew)); exact HO226.out) hg hat)
               have n4_ := Aside0.mk (Kd.N_afterv (ok := (fun k_ => (w.heap.size ≤ k_) ∧ some k_ ≠ (.slice (some ad204) t200.length co11 : Value).ownBlock)) (by (with_reducible repeat (first | apply Kd.N_alloc | apply Kd.N_drewN | apply Kd.N_drew)); exact HO218.out) hg hat)
               have n5_ := Aside0.mk (hb)
               have n6_ := Aside0.mk (ho)
               clear HO_8
               clear HL204_2
               clear HO212
               clear HO226
               clear HO218
               clear HB
               clear HO207
               have HO_8 := n0_
               have HL204_2 := n1_
               have HO212 := n2_
               have HO226 := n3_
               have HO218 := n4_
               have HB := n5_
               have HO215 := n6_
               clear n0_ n1_ n2_ n3_ n4_ n5_ n6_
               clear ho hb hg hat
               refine hK.out _ _ trivial (fun hHeld => ?_)
               clear hK K
               refine norm_ (a' := ?_) ?_ ?_
               rotate_left
               ·show Act.put _ (some 43) _ = _
                simp only [Act.put, sT, s0, sS, i64_w, i32_w]
                rfl
               exact norm_ (by simp only [putAll, Act.put, List.setIfInBounds_toArray, List.set_cons_zero, List.set_cons_succ]) (hCont (v206, v214, v217) _ ⟨(by (with_reducible repeat (first | apply Kd.V_alloc | apply Kd.V_drewN | apply Kd.V_drew)); exact Kd.V_mono HL204_2.out (fun _ hk => ⟨hk.1.1, ⟨hk.2, ⟨hk.1.2.2, hk.1.2.1⟩⟩⟩)), (by (with_reducible repeat (first | apply Kd.V_alloc | apply Kd.V_drewN | apply Kd.V_drew)); exact Kd.V_mono HO212.out (fun _ hk => ⟨hk.1.1, ⟨hk.2, hk.1.2⟩⟩)), (by (with_reducible repeat (first | apply Kd.N_alloc | apply Kd.N_drewN | apply Kd.N_drew)); exact HO215.out), (by (with_reducible repeat (first | apply Kd.N_alloc | apply Kd.N_drewN | apply Kd.N_drew)); exact Kd.N_mono HO218.out (fun _ hk => ⟨hk.1.1, ⟨hk.2, hk.1.2⟩⟩)), (by (with_reducible repeat (first | apply Kd.V_alloc | apply Kd.V_drewN | apply Kd.V_drew)); exact Kd.V_mono HO226.out (fun _ hk => ⟨hk.1.1, ⟨hk.2, hk.1.2⟩⟩)), (by (with_reducible repeat (first | apply Kd.N_alloc | apply Kd.N_drewN | apply Kd.N_drew)); exact Kd.N_mono HO_8.out (fun _ hk => ⟨hk.1.1, ⟨hk.2, hk.1.2⟩⟩)), qB⟩)
             rintro ⟨v206, v214, v217⟩ w31 ⟨h0_, h1_, h2_, h3_, h4_, h5_, h6_⟩
             have n0_ : Aside0 (Kd.V k56 56 w31 w.heap.size (fun k_ => (w.heap.size ≤ k_) ∧ some k_ ≠ (v214 : Value).ownBlock ∧ some k_ ≠ (v217 : Value).ownBlock ∧ some k_ ≠ (.slice (some ad204) t200.length co11 : Value).ownBlock) (.slice A204_2 ((rd_T52 t200 x10_1).f2).length c204_2) ((rd_T52 t200 x10_1).f2)) := ⟨h0_⟩
             have n1_ : Aside0 (Kd.V k52 52 w31 w.heap.size (fun k_ => (w.heap.size ≤ k_) ∧ some k_ ≠ (v214 : Value).ownBlock ∧ some k_ ≠ (v217 : Value).ownBlock) (.slice (some ad204) y208.length co11) y208) := ⟨h1_⟩
             have n2_ : Aside0 (Kd.N k52 52 w31 w.heap.size (fun k_ => (w.heap.size ≤ k_) ∧ some k_ ≠ (v217 : Value).ownBlock) v214 y213) := ⟨h2_⟩
             have n3_ : Aside0 (Kd.N k52 52 w31 w.heap.size (fun k_ => (w.heap.size ≤ k_) ∧ some k_ ≠ (v214 : Value).ownBlock ∧ some k_ ≠ (.slice (some ad204) t200.length co11 : Value).ownBlock) v217 y216) := ⟨h3_⟩
             have n4_ : Aside0 (Kd.V k52 52 w31 w.heap.size (fun k_ => (w.heap.size ≤ k_) ∧ some k_ ≠ (v214 : Value).ownBlock ∧ some k_ ≠ (v217 : Value).ownBlock) (.slice A25 y222.length c25) y222) := ⟨h4_⟩
             have n5_ : Aside0 (Kd.N k52 52 w31 w.heap.size (fun k_ => (w.heap.size ≤ k_) ∧ some k_ ≠ (v214 : Value).ownBlock ∧ some k_ ≠ (v217 : Value).ownBlock) (.slice (some ad204) t200.length co11) t200) := ⟨h5_⟩
             have n6_ : Aside0 (Below w.heap.size w w31) := ⟨h6_⟩
             clear HO_8
             clear HL204_2
             clear HR204_2
             clear HB
             clear h0_ h1_ h2_ h3_ h4_ h5_ h6_
             have HL204_2 := n0_
             have HO212 := n1_
             have HO215 := n2_
             have HO218 := n3_
             have HO226 := n4_
             have HO_8 := n5_
             have HB := n6_
             clear n0_ n1_ n2_ n3_ n4_ n5_ n6_
             have hHeld := trivial
             obtain ⟨Ao33, co33, eo33⟩ := Kd.N_slice HO218.out
             (first | subst eo33 | (injection eo33 with f1_ f2_ f3_; have f4_ := f1_.symm; have f5_ := f3_.symm; clear f1_ f2_ f3_; subst f4_; subst f5_))
             refine norm_ (a' := ?_) ?_ ?_
             (rotate_left; · simp only [putAll, Act.put, List.setIfInBounds_toArray, List.set_cons_zero, List.set_cons_succ]; rfl)
             refine one_ (i := 8) (N := some 47) (tf 14 4095) rfl rfl (one_of HT_.out (by kernel_rfl)) (by decide) (fun K hK => ?_)
             refine Kd.N_append_rows_step k52 (w0 := w) w.heap.size (by rfl) (.tmp 43) (.tmp 46) 25 52 (.agg #[(.string ⟨#[]⟩), (.int .i64 0), (.slice none 0 0)]) 48 rfl Try.underlying25 info52 rfl (by decide) (by omega) v214 y213 y216 _ _ _ (fun k_ => (w.heap.size ≤ k_)) (fun k_ => ((fun k_ => (w.heap.size ≤ k_))) k_ ∧ some k_ ≠ (v214 : Value).ownBlock) rfl rfl ?aO ?aR (fun _ hk => hk) ?aF ?aB ?aS ?aL ?_
             (case aR => exact (by skip; exact Kd.N_F (Kd.N_mono (ok' := (fun k_ => ((fun k_ => (w.heap.size ≤ k_))) k_ ∧ some k_ ≠ (v214 : Value).ownBlock)) (HO218.out) (fun k_ hk => ⟨hk.1, hk.2.1⟩))))
             (case aB => exact qB)
             (case aF => exact (fun k_ hk => (Nat.le_trans (below_size qB) hk)))
             (case aO => exact (by (with_reducible repeat (first | apply Kd.N_alloc | apply Kd.N_drewN | apply Kd.N_drew)); exact Kd.N_mono HO215.out (fun _ hk => hk.1)))
             (case aS => exact (below_size qB))
             (case aL => have := LMc19.out; omega)
             intro v220 w32 ho hb hg hat
             rw [← Ny219.out] at ho
             have n0_ := Aside0.mk (Kd.N_afterv (ok := (fun k_ => (w.heap.size ≤ k_) ∧ some k_ ≠ (.slice Ao33 y216.length co33 : Value).ownBlock)) (by (with_reducible repeat (first | apply Kd.N_alloc | apply Kd.N_drewN | apply Kd.N_drew)); exact Kd.N_mono HO_8.out (fun _ hk => ⟨⟨hk.1, hk.2.2⟩, hk.2.1⟩)) hg hat)
             have n1_ := Aside0.mk (Kd.V_afterv (ok := (fun k_ => (w.heap.size ≤ k_) ∧ some k_ ≠ (.slice (some ad204) t200.length co11 : Value).ownBlock ∧ some k_ ≠ (.slice Ao33 y216.length co33 : Value).ownBlock)) (by (with_reducible repeat (first | apply Kd.V_alloc | apply Kd.V_drewN | apply Kd.V_drew)); exact Kd.V_mono HL204_2.out (fun _ hk => ⟨⟨hk.1, ⟨hk.2.2.2, hk.2.2.1⟩⟩, hk.2.1⟩)) hg hat)
             have n2_ := Aside0.mk (Kd.V_afterv (ok := (fun k_ => (w.heap.size ≤ k_) ∧ some k_ ≠ (.slice Ao33 y216.length co33 : Value).ownBlock)) (by (with_reducible repeat (first | apply Kd.V_alloc | apply Kd.V_drewN | apply Kd.V_drew)); exact Kd.V_mono HO212.out (fun _ hk => ⟨⟨hk.1, hk.2.2⟩, hk.2.1⟩)) hg hat)
             have n3_ := Aside0.mk (Kd.V_afterv (ok := (fun k_ => (w.heap.size ≤ k_) ∧ some k_ ≠ (.slice Ao33 y216.length co33 : Value).ownBlock)) (by (with_reducible repeat (first | apply Kd.V_alloc | apply Kd.V_drewN | apply Kd.V_drew)); exact Kd.V_mono HO226.out (fun _ hk => ⟨⟨hk.1, hk.2.2⟩, hk.2.1⟩)) hg hat)
             have n4_ := Aside0.mk (Kd.N_afterv (ok := (fun k_ => (w.heap.size ≤ k_) ∧ some k_ ≠ (.slice (some ad204) t200.length co11 : Value).ownBlock)) (by (with_reducible repeat (first | apply Kd.N_alloc | apply Kd.N_drewN | apply Kd.N_drew)); exact Kd.N_mono HO218.out (fun _ hk => ⟨⟨hk.1, hk.2.2⟩, hk.2.1⟩)) hg hat)
             have n5_ := Aside0.mk (hb)
             have n6_ := Aside0.mk (ho)
             clear HO_8
             clear HL204_2
             clear HO212
             clear HO226
             clear HO218
             clear HB
             clear HO215
             have HO_8 := n0_
             have HL204_2 := n1_
             have HO212 := n2_
             have HO226 := n3_
             have HO218 := n4_
             have HB := n5_
             have HO221 := n6_
             clear n0_ n1_ n2_ n3_ n4_ n5_ n6_
             clear ho hb hg hat
             refine hK.out _ _ trivial (fun hHeld => ?_)
             clear hK K
             refine norm_ (a' := ?_) ?_ ?_
             rotate_left
             ·show Act.put _ (some 47) _ = _
              simp only [Act.put, sT, s0, sS, i64_w, i32_w]
              rfl
             refine one_ (i := 12) (N := some 51) (tf 14 8191) rfl rfl (one_of HT_.out (by kernel_rfl)) (by decide) (fun K hK => ?_)
             refine Kd.N_append_rows_step k52 (w0 := w) w.heap.size (by rfl) (.tmp 47) (.tmp 50) 25 52 (.agg #[(.string ⟨#[]⟩), (.int .i64 0), (.slice none 0 0)]) 48 rfl Try.underlying25 info52 rfl (by decide) (by omega) v220 y219 y222 _ _ _ (fun k_ => (w.heap.size ≤ k_)) (fun k_ => ((fun k_ => (w.heap.size ≤ k_))) k_ ∧ some k_ ≠ (v220 : Value).ownBlock) rfl rfl ?aO ?aR (fun _ hk => hk) ?aF ?aB ?aS ?aL ?_
             (case aR => exact (by skip; exact Kd.V_F (Kd.V_mono (ok' := (fun k_ => ((fun k_ => (w.heap.size ≤ k_))) k_ ∧ some k_ ≠ (v220 : Value).ownBlock)) (HO226.out) (fun k_ hk => ⟨hk.1.1, hk.2⟩))))
             (case aB => exact qB)
             (case aF => exact (fun k_ hk => (Nat.le_trans (below_size qB) hk)))
             (case aO => exact (by (with_reducible repeat (first | apply Kd.N_alloc | apply Kd.N_drewN | apply Kd.N_drew)); exact HO221.out))
             (case aS => exact (below_size qB))
             (case aL => have := LMc22.out; omega)
             intro v228 w34 ho hb hg hat
             rw [← Ny227.out] at ho
             have n0_ := Aside0.mk (Kd.N_afterv (ok := (fun k_ => (w.heap.size ≤ k_) ∧ some k_ ≠ (.slice Ao33 y216.length co33 : Value).ownBlock)) (by (with_reducible repeat (first | apply Kd.N_alloc | apply Kd.N_drewN | apply Kd.N_drew)); exact HO_8.out) hg hat)
             have n1_ := Aside0.mk (Kd.V_afterv (ok := (fun k_ => (w.heap.size ≤ k_) ∧ some k_ ≠ (.slice (some ad204) t200.length co11 : Value).ownBlock ∧ some k_ ≠ (.slice Ao33 y216.length co33 : Value).ownBlock)) (by (with_reducible repeat (first | apply Kd.V_alloc | apply Kd.V_drewN | apply Kd.V_drew)); exact HL204_2.out) hg hat)
             have n2_ := Aside0.mk (Kd.V_afterv (ok := (fun k_ => (w.heap.size ≤ k_) ∧ some k_ ≠ (.slice Ao33 y216.length co33 : Value).ownBlock)) (by (with_reducible repeat (first | apply Kd.V_alloc | apply Kd.V_drewN | apply Kd.V_drew)); exact HO212.out) hg hat)
             have n3_ := Aside0.mk (Kd.V_afterv (ok := (fun k_ => (w.heap.size ≤ k_) ∧ some k_ ≠ (.slice Ao33 y216.length co33 : Value).ownBlock)) (by (with_reducible repeat (first | apply Kd.V_alloc | apply Kd.V_drewN | apply Kd.V_drew)); exact HO226.out) hg hat)
             have n4_ := Aside0.mk (Kd.N_afterv (ok := (fun k_ => (w.heap.size ≤ k_) ∧ some k_ ≠ (.slice (some ad204) t200.length co11 : Value).ownBlock)) (by (with_reducible repeat (first | apply Kd.N_alloc | apply Kd.N_drewN | apply Kd.N_drew)); exact HO218.out) hg hat)
             have n5_ := Aside0.mk (hb)
             have n6_ := Aside0.mk (ho)
             clear HO_8
             clear HL204_2
             clear HO212
             clear HO226
             clear HO218
             clear HB
             clear HO221
             have HO_8 := n0_
             have HL204_2 := n1_
             have HO212 := n2_
             have HO226 := n3_
             have HO218 := n4_
             have HB := n5_
             have HO229 := n6_
             clear n0_ n1_ n2_ n3_ n4_ n5_ n6_
             clear ho hb hg hat
             refine hK.out _ _ trivial (fun hHeld => ?_)
             clear hK K
             refine norm_ (a' := ?_) ?_ ?_
             rotate_left
             ·show Act.put _ (some 51) _ = _
              simp only [Act.put, sT, s0, sS, i64_w, i32_w]
              rfl
             refine qA 13 8 (tf 14 16383) ?_
             refine done_ (done_of HT_.out (by kernel_rfl)) ?_
             try go_wp2
             go_meet
             case rel => exact ⟨_, (y227), (x10_1), (by first | rfl | (simp; done) | (simp [*]; done)), H', ⟨by have := HK1.out; first | omega | exact Nat.le_refl _⟩, ⟨by (with_reducible repeat (first | apply Kd.N_alloc | apply Kd.N_drewN | apply Kd.N_drew)); exact HO229.out⟩, ⟨by repeat (first | (with_reducible first | exact HB.out | apply below_alloc | apply pw_below_drewN | apply below_drew1) | exact HB.out)⟩⟩
            ·rw [if_neg c22] at H
             exact absurd H (by simp)
           ·rw [if_neg c19] at H
            exact absurd H (by simp)
          ·rw [if_neg c18] at H
           exact absurd H (by simp)
         ·rw [if_neg c17] at H
          exact absurd H (by simp)
       ·rw [if_neg c14] at H
        exact absurd H (by simp)
      ·rw [if_neg c13] at H
       have c13b0 : decide (x10_1 < (t200.length : Int)) = false := decide_eq_false c13
       clear c13
       obtain ⟨y230, hy230⟩ : ∃ y_ : List (S52), y_ = (([] : List (S52))) := ⟨_, rfl⟩
       replace H : (if 0 ≤ x10_1 then (if x10_1 ≤ (t200.length : Int) then ((some (t200.take (x10_1 : Int).toNat : List (S52))).bind fun y233 => (if y230.length + y233.length < 2932031007402 then ((some (y230 ++ y233 : List (S52))).bind fun y238 => ((some (([(⟨a1, 0, ([] : List (S56))⟩ : S52)] : List (S52)) : List (S52))).bind fun y241 => (if y238.length + y241.length < 2932031007402 then ((some (y238 ++ y241 : List (S52))).bind fun y244 => ((some (t200.drop (x10_1 : Int).toNat : List (S52))).bind fun y247 => (if y244.length + y247.length < 2932031007402 then (spec_Switch.j1 l0 k1 a2 (y244 ++ y247) x10_1) else (none)))) else (none)))) else (none))) else (none)) else (none)) = some (r1, r2) := by first | (rw [hy230]; with_reducible exact H) | (have H2_ := (Option.bind_some _ _).symm.trans H; rw [hy230]; with_reducible exact H2_) | (have H2_ := (Option.bind_some _ _).symm.trans H; with_reducible exact H2_) | with_reducible exact H | (rw [hy230]; exact H) | exact H
       have Ny230 := Aside0.mk hy230
       clear hy230
       by_cases c35 : 0 ≤ x10_1
       ·rw [if_pos c35] at H
        have c35b0 := eq_true c35
        have c35b1 : decide (0 ≤ x10_1) = true := decide_eq_true c35
        clear c35
        by_cases c36 : x10_1 ≤ (t200.length : Int)
        ·rw [if_pos c36] at H
         have c36b0 := eq_true c36
         have c36b1 : decide (x10_1 ≤ (t200.length : Int)) = true := decide_eq_true c36
         clear c36
         obtain ⟨y233, hy233⟩ : ∃ y_ : List (S52), y_ = (t200.take (x10_1 : Int).toNat) := ⟨_, rfl⟩
         replace H : (if y230.length + y233.length < 2932031007402 then ((some (y230 ++ y233 : List (S52))).bind fun y238 => ((some (([(⟨a1, 0, ([] : List (S56))⟩ : S52)] : List (S52)) : List (S52))).bind fun y241 => (if y238.length + y241.length < 2932031007402 then ((some (y238 ++ y241 : List (S52))).bind fun y244 => ((some (t200.drop (x10_1 : Int).toNat : List (S52))).bind fun y247 => (if y244.length + y247.length < 2932031007402 then (spec_Switch.j1 l0 k1 a2 (y244 ++ y247) x10_1) else (none)))) else (none)))) else (none)) = some (r1, r2) := by first | (rw [hy233]; with_reducible exact H) | (have H2_ := (Option.bind_some _ _).symm.trans H; rw [hy233]; with_reducible exact H2_) | (have H2_ := (Option.bind_some _ _).symm.trans H; with_reducible exact H2_) | with_reducible exact H | (rw [hy233]; exact H) | exact H
         have Ny233 := Aside0.mk hy233
         clear hy233
         by_cases c37 : y230.length + y233.length < 2932031007402
         ·rw [if_pos c37] at H
          have LMc37 := Aside0.mk c37
          clear c37
          obtain ⟨y238, hy238⟩ : ∃ y_ : List (S52), y_ = (y230 ++ y233) := ⟨_, rfl⟩
          replace H : ((some (([(⟨a1, 0, ([] : List (S56))⟩ : S52)] : List (S52)) : List (S52))).bind fun y241 => (if y238.length + y241.length < 2932031007402 then ((some (y238 ++ y241 : List (S52))).bind fun y244 => ((some (t200.drop (x10_1 : Int).toNat : List (S52))).bind fun y247 => (if y244.length + y247.length < 2932031007402 then (spec_Switch.j1 l0 k1 a2 (y244 ++ y247) x10_1) else (none)))) else (none))) = some (r1, r2) := by first | (rw [hy238]; with_reducible exact H) | (have H2_ := (Option.bind_some _ _).symm.trans H; rw [hy238]; with_reducible exact H2_) | (have H2_ := (Option.bind_some _ _).symm.trans H; with_reducible exact H2_) | with_reducible exact H | (rw [hy238]; exact H) | exact H
          have Ny238 := Aside0.mk hy238
          clear hy238
          obtain ⟨y241, hy241⟩ : ∃ y_ : List (S52), y_ = (([(⟨a1, 0, ([] : List (S56))⟩ : S52)] : List (S52))) := ⟨_, rfl⟩
          replace H : (if y238.length + y241.length < 2932031007402 then ((some (y238 ++ y241 : List (S52))).bind fun y244 => ((some (t200.drop (x10_1 : Int).toNat : List (S52))).bind fun y247 => (if y244.length + y247.length < 2932031007402 then (spec_Switch.j1 l0 k1 a2 (y244 ++ y247) x10_1) else (none)))) else (none)) = some (r1, r2) := by first | (rw [hy241]; with_reducible exact H) | (have H2_ := (Option.bind_some _ _).symm.trans H; rw [hy241]; with_reducible exact H2_) | (have H2_ := (Option.bind_some _ _).symm.trans H; with_reducible exact H2_) | with_reducible exact H | (rw [hy241]; exact H) | exact H
          have Ny241 := Aside0.mk hy241
          clear hy241
          by_cases c38 : y238.length + y241.length < 2932031007402
          ·rw [if_pos c38] at H
           have LMc38 := Aside0.mk c38
           clear c38
           obtain ⟨y244, hy244⟩ : ∃ y_ : List (S52), y_ = (y238 ++ y241) := ⟨_, rfl⟩
           replace H : ((some (t200.drop (x10_1 : Int).toNat : List (S52))).bind fun y247 => (if y244.length + y247.length < 2932031007402 then (spec_Switch.j1 l0 k1 a2 (y244 ++ y247) x10_1) else (none))) = some (r1, r2) := by first | (rw [hy244]; with_reducible exact H) | (have H2_ := (Option.bind_some _ _).symm.trans H; rw [hy244]; with_reducible exact H2_) | (have H2_ := (Option.bind_some _ _).symm.trans H; with_reducible exact H2_) | with_reducible exact H | (rw [hy244]; exact H) | exact H
           have Ny244 := Aside0.mk hy244
           clear hy244
           have c39b0 := eq_true (of_decide_eq_true (by first | (with_reducible assumption) | assumption) : 0 ≤ x10_1)
           have c40b0 := eq_true (of_decide_eq_true (by first | (with_reducible assumption) | assumption) : x10_1 ≤ (t200.length : Int))
           obtain ⟨y247, hy247⟩ : ∃ y_ : List (S52), y_ = (t200.drop (x10_1 : Int).toNat) := ⟨_, rfl⟩
           replace H : (if y244.length + y247.length < 2932031007402 then (spec_Switch.j1 l0 k1 a2 (y244 ++ y247) x10_1) else (none)) = some (r1, r2) := by first | (rw [hy247]; with_reducible exact H) | (have H2_ := (Option.bind_some _ _).symm.trans H; rw [hy247]; with_reducible exact H2_) | (have H2_ := (Option.bind_some _ _).symm.trans H; with_reducible exact H2_) | with_reducible exact H | (rw [hy247]; exact H) | exact H
           have Ny247 := Aside0.mk hy247
           clear hy247
           by_cases c41 : y244.length + y247.length < 2932031007402
           ·rw [if_pos c41] at H
            have LMc41 := Aside0.mk c41
            clear c41
            obtain ⟨y252, hy252⟩ : ∃ y_ : List (S52), y_ = (y244 ++ y247) := ⟨_, rfl⟩
            replace H : (spec_Switch.j1 l0 k1 a2 y252 x10_1) = some (r1, r2) := by first | (rw [hy252]; with_reducible exact H) | (have H2_ := (Option.bind_some _ _).symm.trans H; rw [hy252]; with_reducible exact H2_) | (have H2_ := (Option.bind_some _ _).symm.trans H; with_reducible exact H2_) | with_reducible exact H | (rw [hy252]; exact H) | exact H
            have Ny252 := Aside0.mk hy252
            clear hy252
            have H' := Aside0.mk H
            clear H
            try go_wp2
            have n0_ := Aside0.mk (Kd.N_drew HO_8.out)
            have n1_ := Aside0.mk (below_drew1 HB.out)
            clear HO_8
            clear HB
            have HO_8 := n0_
            have HB := n1_
            clear n0_ n1_
            have q43 : (x10_1 : Int) ≤ ((t200.length : Int) : Int) := of_decide_eq_true (by first | (with_reducible assumption) | assumption)
            obtain ⟨i043, hi043, _, hsz43, _⟩ := info_parts info52
            have hroom43 : t200.length ≤ co11 := (Kd.N_reads' HO_8.out).2.1
            have hC43 : Kd.F k52 _ _ Ao11 t200.length t200 := (Kd.V_at (base := w.heap.size) (Kd.N_V HO_8.out)).2.2
            have hcut43 := cut_to (P := Try.prog) 25 52 .i64 Try.underlying25 hi043 Ao11 t200.length co11 x10_1 (of_decide_eq_true (by first | (with_reducible assumption) | assumption)) q43 hroom43
            have hr43 := Kd.F_take (m := (x10_1 : Int).toNat) hC43 (by omega)
            have hy43 : y233.length = (x10_1 : Int).toNat := (by rw [Ny233.out, List.length_take]; omega)
            rw [← Ny233.out] at hr43
            rw [← hy43] at hcut43
            have HO237 := Aside0.mk (show Kd.V k52 52 _ w.heap.size _ (.slice Ao11 y233.length co11) y233 from Kd.V_mk (by omega) hr43)
            have HC237 := Aside0.mk (show y233.length ≤ co11 from by omega)
            clear hr43 hC43 hroom43 hi043 hsz43
            have KY43 := Aside0.mk hy43
            clear hy43
            replace q43 := eq_true q43
            have q44 : (x10_1 : Int) ≤ ((t200.length : Int) : Int) := of_decide_eq_true (by first | (with_reducible assumption) | assumption)
            obtain ⟨i044, hi044, _, hsz44, _⟩ := info_parts info52
            have hroom44 : t200.length ≤ co11 := (Kd.N_reads' HO_8.out).2.1
            have hC44 : Kd.F k52 _ _ Ao11 t200.length t200 := (Kd.V_at (base := w.heap.size) (Kd.N_V HO_8.out)).2.2
            have q044 : (0 : Int) ≤ (x10_1 : Int) := of_decide_eq_true (by first | (with_reducible assumption) | assumption)
            have hcut44 := cut_from (P := Try.prog) 25 52 .i64 Try.underlying25 hi044 3 hsz44 Ao11 t200.length co11 x10_1 q044 q44
            have hr44 := Kd.F_cut (m := (x10_1 : Int).toNat) (c := co11) hC44 (by omega) hroom44
            obtain ⟨A44, hA44⟩ : ∃ A1, A1 = (if co11 = (x10_1 : Int).toNat then Ao11 else (Ao11 : Option Addr).map (·.add ((x10_1 : Int).toNat * 3))) := ⟨_, rfl⟩
            obtain ⟨c44, hc44⟩ : ∃ c1, c1 = co11 - (x10_1 : Int).toNat := ⟨_, rfl⟩
            have hy44 : y247.length = t200.length - (x10_1 : Int).toNat := (by rw [Ny247.out, List.length_drop] <;> omega)
            rw [show (t200).drop (x10_1 : Int).toNat = y247 from Ny247.out.symm] at hr44
            replace hr44 : Kd.F k52 _ _ A44 y247.length y247 := (by rw [hA44]; exact hr44)
            rw [← hy44, ← hA44, ← hc44] at hcut44
            have HO251 := Aside0.mk (show Kd.V k52 52 _ w.heap.size _ (.slice A44 y247.length c44) y247 from Kd.V_mk (by rw [hy44, hc44]; exact Nat.sub_le_sub_right hroom44 _) hr44)
            have HC251 := Aside0.mk (show y247.length ≤ c44 from by rw [hy44, hc44]; exact Nat.sub_le_sub_right hroom44 _)
            clear hr44 hC44 hroom44 hi044 hsz44 hc44
            have KY44 := Aside0.mk hy44
            have KA44 := Aside0.mk hA44
            clear hy44 hA44
            replace q44 := eq_true q44
            refine start_ (n := 14) (S := fun w' => True) (ds := []) (tf 14 0) (by kernel_rfl) rfl rfl trivial (fun hHeld => ?_); refine with_tabW spec_Switch.tab9 spec_Switch.bits9 (fun HT_ HW_ => ?_)
            generalize wr.drew = w42 at HO_8 HB HO237 HO251 hHeld ⊢
            refine qA 1 40 (tf 14 2) ?_
            refine qA 2 41 (tf 14 6) ?_
            refine qA 3 42 (tf 14 14) ?_
            refine qA 5 44 (tf 14 46) ?_
            refine qA 6 45 (tf 14 110) ?_
            refine qA 9 48 (tf 14 622) ?_
            refine qA 10 49 (tf 14 1646) ?_
            refine qA 11 50 (tf 14 3694) ?_
            refine join_ (σ := Value × Value × Value) 3 (tf 14 3839) (fun s_ => [(39, s_.1), (43, s_.2.1), (46, s_.2.2)]) (fun s_ w' => (Kd.V k52 52 w' w.heap.size (fun k_ => (w.heap.size ≤ k_) ∧ some k_ ≠ (s_.2.1 : Value).ownBlock ∧ some k_ ≠ (s_.2.2 : Value).ownBlock) (.slice Ao11 y233.length co11) y233) ∧ (Kd.N k52 52 w' w.heap.size (fun k_ => (w.heap.size ≤ k_) ∧ some k_ ≠ (s_.2.2 : Value).ownBlock) s_.2.1 y238) ∧ (Kd.N k52 52 w' w.heap.size (fun k_ => (w.heap.size ≤ k_) ∧ some k_ ≠ (s_.2.1 : Value).ownBlock ∧ some k_ ≠ (.slice Ao11 t200.length co11 : Value).ownBlock) s_.2.2 y241) ∧ (Kd.V k52 52 w' w.heap.size (fun k_ => (w.heap.size ≤ k_) ∧ some k_ ≠ (s_.2.1 : Value).ownBlock ∧ some k_ ≠ (s_.2.2 : Value).ownBlock) (.slice A44 y247.length c44) y247) ∧ (Kd.N k52 52 w' w.heap.size (fun k_ => (w.heap.size ≤ k_) ∧ some k_ ≠ (s_.2.1 : Value).ownBlock ∧ some k_ ≠ (s_.2.2 : Value).ownBlock) (.slice Ao11 t200.length co11) t200) ∧ (Below w.heap.size w w')) ?_ ?_
            rotate_left
            ·intro hCont
             refine two_ (i := 0) (j := 7) (Ni := some 39) (Nj := some 46) (tf 14 3695) (tf 14 3822) rfl rfl rfl rfl (two_of HT_.out (by kernel_rfl)) (by decide) (by decide) (fun K hK => ?_) (fun K hK => ?_)
             ·skip
              refine Kd.N_lit_step k52 _ 52 ?hg (N' := 39) ?hd (xs := ([] : List (S52))) (inner := []) (ok := (fun k_ => (w.heap.size ≤ k_) ∧ some k_ ≠ (.slice Ao11 t200.length co11 : Value).ownBlock)) (okp := (fun k_ => (w.heap.size ≤ k_) ∧ some k_ ≠ (.slice Ao11 t200.length co11 : Value).ownBlock)) ?hr ?hp (fun _ hk => hk) ((show ∀ k_, w42.heap.size ≤ k_ → (fun k_ => (w.heap.size ≤ k_) ∧ some k_ ≠ (.slice Ao11 t200.length co11 : Value).ownBlock) k_ from fun k_ hk => ⟨(Nat.le_trans (below_size qB) hk), Kd.fresh' (Kd.N_lt (by (with_reducible repeat (first | apply Kd.N_alloc | apply Kd.N_drewN | apply Kd.N_drew)); exact HO_8.out)) k_ hk⟩) _ (Nat.le_refl _)) (Below.refl _ _) (Nat.le_refl _) (by simp) ?_; (case hd => rfl); (case hg => rfl); (case hr => first | (go_simp; done) | (go_simp; rfl)); (case hp => exact (Reps.none _ _))
              intro v231 w45 ho46 hb hg_ hnew_
              clear hg_ hnew_
              (first | rw [← Ny230.out] at ho46 | (simp only [Int.reduceToNat] at ho46; rw [← Ny230.out] at ho46))
              have n0_ := Aside0.mk (Kd.N_elder' (by (with_reducible repeat (first | apply Kd.N_alloc | apply Kd.N_drewN | apply Kd.N_drew)); exact HO_8.out) (Kd.N_base ho46) hb)
              have n1_ := Aside0.mk (Kd.V_elder' (by (with_reducible repeat (first | apply Kd.V_alloc | apply Kd.V_drewN | apply Kd.V_drew)); exact HO237.out) (Kd.N_base ho46) hb)
              have n2_ := Aside0.mk (Kd.V_elder' (by (with_reducible repeat (first | apply Kd.V_alloc | apply Kd.V_drewN | apply Kd.V_drew)); exact HO251.out) (Kd.N_base ho46) hb)
              have n3_ := Aside0.mk (Kd.N_lower ho46 (below_size qB))
              have n4_ := Aside0.mk (below_step qB hb)
              clear HO_8
              clear HO237
              clear HO251
              clear HB
              have HO_8 := n0_
              have HO237 := n1_
              have HO251 := n2_
              have HO232 := n3_
              have HB := n4_
              clear n0_ n1_ n2_ n3_ n4_
              clear hb ho46
              refine hK.out _ _ trivial (fun hHeld => ?_)
              clear hK K
              refine norm_ (a' := ?_) ?_ ?_
              rotate_left
              ·show Act.put _ (some 39) _ = _
               simp only [Act.put, sT, s0, sS, i64_w, i32_w]
               rfl
              refine two_ (i := 4) (j := 7) (Ni := some 43) (Nj := some 46) (tf 14 3711) (tf 14 3823) rfl rfl rfl rfl (two_of HT_.out (by kernel_rfl)) (by decide) (by decide) (fun K hK => ?_) (fun K hK => ?_)
              ·skip
               refine Kd.N_append_rows_step k52 (w0 := w) w.heap.size (by rfl) (.tmp 39) (.tmp 42) 25 52 (.agg #[(.string ⟨#[]⟩), (.int .i64 0), (.slice none 0 0)]) 48 rfl Try.underlying25 info52 rfl (by decide) (by omega) v231 y230 y233 _ _ _ (fun k_ => (w.heap.size ≤ k_)) (fun k_ => ((fun k_ => (w.heap.size ≤ k_))) k_ ∧ some k_ ≠ (v231 : Value).ownBlock) rfl rfl ?aO ?aR (fun _ hk => hk) ?aF ?aB ?aS ?aL ?_
               (case aR => exact (by skip; exact Kd.V_F (Kd.V_mono (ok' := (fun k_ => ((fun k_ => (w.heap.size ≤ k_))) k_ ∧ some k_ ≠ (v231 : Value).ownBlock)) (HO237.out) (fun k_ hk => ⟨hk.1, hk.2⟩))))
               (case aB => exact qB)
               (case aF => exact (fun k_ hk => (Nat.le_trans (below_size qB) hk)))
               (case aO => exact (by (with_reducible repeat (first | apply Kd.N_alloc | apply Kd.N_drewN | apply Kd.N_drew)); exact Kd.N_mono HO232.out (fun _ hk => hk.1)))
               (case aS => exact (below_size qB))
               (case aL => have := LMc37.out; omega)
               intro v239 w47 ho hb hg hat
               rw [← Ny238.out] at ho
               have n0_ := Aside0.mk (Kd.N_afterv (ok := (fun k_ => (w.heap.size ≤ k_))) (by (with_reducible repeat (first | apply Kd.N_alloc | apply Kd.N_drewN | apply Kd.N_drew)); exact HO_8.out) hg hat)
               have n1_ := Aside0.mk (Kd.V_afterv (ok := (fun k_ => (w.heap.size ≤ k_))) (by (with_reducible repeat (first | apply Kd.V_alloc | apply Kd.V_drewN | apply Kd.V_drew)); exact HO237.out) hg hat)
               have n2_ := Aside0.mk (Kd.V_afterv (ok := (fun k_ => (w.heap.size ≤ k_))) (by (with_reducible repeat (first | apply Kd.V_alloc | apply Kd.V_drewN | apply Kd.V_drew)); exact HO251.out) hg hat)
               have n3_ := Aside0.mk (hb)
               have n4_ := Aside0.mk (ho)
               clear HO_8
               clear HO237
               clear HO251
               clear HB
               clear HO232
               have HO_8 := n0_
               have HO237 := n1_
               have HO251 := n2_
               have HB := n3_
               have HO240 := n4_
               clear n0_ n1_ n2_ n3_ n4_
               clear ho hb hg hat
               refine hK.out _ _ trivial (fun hHeld => ?_)
               clear hK K
               refine norm_ (a' := ?_) ?_ ?_
               rotate_left
               ·show Act.put _ (some 43) _ = _
                simp only [Act.put, sT, s0, sS, i64_w, i32_w]
                rfl
               refine one_ (i := 7) (N := some 46) (tf 14 3839) rfl rfl (one_of HT_.out (by kernel_rfl)) (by decide) (fun K hK => ?_)
               refine Kd.N_lit_step k52 _ 52 ?hg (N' := 46) ?hd (xs := ([(⟨a1, 0, ([] : List (S56))⟩ : S52)] : List (S52))) (inner := [.string a1, .int .i64 0, .slice none 0 0]) (ok := (fun k_ => (w.heap.size ≤ k_) ∧ some k_ ≠ (.slice Ao11 t200.length co11 : Value).ownBlock ∧ some k_ ≠ (v239 : Value).ownBlock)) (okp := (fun k_ => (w.heap.size ≤ k_) ∧ some k_ ≠ (.slice Ao11 t200.length co11 : Value).ownBlock ∧ some k_ ≠ (v239 : Value).ownBlock)) ?hr ?hp (fun _ hk => hk) ((show ∀ k_, w47.heap.size ≤ k_ → (fun k_ => (w.heap.size ≤ k_) ∧ some k_ ≠ (.slice Ao11 t200.length co11 : Value).ownBlock ∧ some k_ ≠ (v239 : Value).ownBlock) k_ from fun k_ hk => ⟨(Nat.le_trans (below_size qB) hk), Kd.fresh' (Kd.N_lt (by (with_reducible repeat (first | apply Kd.N_alloc | apply Kd.N_drewN | apply Kd.N_drew)); exact HO_8.out)) k_ hk, Kd.fresh' (Kd.N_lt (by (with_reducible repeat (first | apply Kd.N_alloc | apply Kd.N_drewN | apply Kd.N_drew)); exact HO240.out)) k_ hk⟩) _ (Nat.le_refl _)) (Below.refl _ _) (Nat.le_refl _) (by simp) ?_; (case hd => rfl); (case hg => rfl); (case hr => first | (go_simp; done) | (go_simp; rfl)); (case hp => exact (Reps.c3 (show Kd.FK k52 _ _ (⟨a1, 0, ([] : List (S56))⟩ : S52) [.string a1, .int .i64 0, .slice none 0 0] from (sw_k52_mkF _ _ (⟨a1, 0, ([] : List (S56))⟩ : S52) (Nat.le_refl _) (Kd.F_nil _ _ _))) (Reps.none _ _)))
               intro v242 w48 ho49 hb hg_ hnew_
               clear hg_ hnew_
               (first | rw [← Ny241.out] at ho49 | (simp only [Int.reduceToNat] at ho49; rw [← Ny241.out] at ho49))
               have n0_ := Aside0.mk (Kd.N_elder' (by (with_reducible repeat (first | apply Kd.N_alloc | apply Kd.N_drewN | apply Kd.N_drew)); exact HO_8.out) (Kd.N_base ho49) hb)
               have n1_ := Aside0.mk (Kd.V_elder' (by (with_reducible repeat (first | apply Kd.V_alloc | apply Kd.V_drewN | apply Kd.V_drew)); exact HO237.out) (Kd.N_base ho49) hb)
               have n2_ := Aside0.mk (Kd.V_elder' (by (with_reducible repeat (first | apply Kd.V_alloc | apply Kd.V_drewN | apply Kd.V_drew)); exact HO251.out) (Kd.N_base ho49) hb)
               have n3_ := Aside0.mk (Kd.N_elder' (by (with_reducible repeat (first | apply Kd.N_alloc | apply Kd.N_drewN | apply Kd.N_drew)); exact HO240.out) (Kd.N_base ho49) hb)
               have n4_ := Aside0.mk (Kd.N_lower ho49 (below_size qB))
               have n5_ := Aside0.mk (below_step qB hb)
               clear HO_8
               clear HO237
               clear HO251
               clear HO240
               clear HB
               have HO_8 := n0_
               have HO237 := n1_
               have HO251 := n2_
               have HO240 := n3_
               have HO243 := n4_
               have HB := n5_
               clear n0_ n1_ n2_ n3_ n4_ n5_
               clear hb ho49
               refine hK.out _ _ trivial (fun hHeld => ?_)
               clear hK K
               refine norm_ (a' := ?_) ?_ ?_
               rotate_left
               ·show Act.put _ (some 46) _ = _
                simp only [Act.put, sT, s0, sS, i64_w, i32_w]
                rfl
               exact norm_ (by simp only [putAll, Act.put, List.setIfInBounds_toArray, List.set_cons_zero, List.set_cons_succ]) (hCont (v231, v239, v242) _ ⟨(by (with_reducible repeat (first | apply Kd.V_alloc | apply Kd.V_drewN | apply Kd.V_drew)); exact Kd.V_mono HO237.out (fun _ hk => ⟨hk.1.1, ⟨hk.1.2, hk.2⟩⟩)), (by (with_reducible repeat (first | apply Kd.N_alloc | apply Kd.N_drewN | apply Kd.N_drew)); exact HO240.out), (by (with_reducible repeat (first | apply Kd.N_alloc | apply Kd.N_drewN | apply Kd.N_drew)); exact Kd.N_mono HO243.out (fun _ hk => ⟨hk.1, ⟨hk.2.2, hk.2.1⟩⟩)), (by (with_reducible repeat (first | apply Kd.V_alloc | apply Kd.V_drewN | apply Kd.V_drew)); exact Kd.V_mono HO251.out (fun _ hk => ⟨hk.1.1, ⟨hk.1.2, hk.2⟩⟩)), (by (with_reducible repeat (first | apply Kd.N_alloc | apply Kd.N_drewN | apply Kd.N_drew)); exact Kd.N_mono HO_8.out (fun _ hk => ⟨hk.1.1, ⟨hk.1.2, hk.2⟩⟩)), qB⟩)
              ·skip
               refine Kd.N_lit_step k52 _ 52 ?hg (N' := 46) ?hd (xs := ([(⟨a1, 0, ([] : List (S56))⟩ : S52)] : List (S52))) (inner := [.string a1, .int .i64 0, .slice none 0 0]) (ok := (fun k_ => (w.heap.size ≤ k_) ∧ some k_ ≠ (.slice Ao11 t200.length co11 : Value).ownBlock ∧ some k_ ≠ (v231 : Value).ownBlock)) (okp := (fun k_ => (w.heap.size ≤ k_) ∧ some k_ ≠ (.slice Ao11 t200.length co11 : Value).ownBlock ∧ some k_ ≠ (v231 : Value).ownBlock)) ?hr ?hp (fun _ hk => hk) ((show ∀ k_, w45.heap.size ≤ k_ → (fun k_ => (w.heap.size ≤ k_) ∧ some k_ ≠ (.slice Ao11 t200.length co11 : Value).ownBlock ∧ some k_ ≠ (v231 : Value).ownBlock) k_ from fun k_ hk => ⟨(Nat.le_trans (below_size qB) hk), Kd.fresh' (Kd.N_lt (by (with_reducible repeat (first | apply Kd.N_alloc | apply Kd.N_drewN | apply Kd.N_drew)); exact HO_8.out)) k_ hk, Kd.fresh' (Kd.N_lt (by (with_reducible repeat (first | apply Kd.N_alloc | apply Kd.N_drewN | apply Kd.N_drew)); exact HO232.out)) k_ hk⟩) _ (Nat.le_refl _)) (Below.refl _ _) (Nat.le_refl _) (by simp) ?_; (case hd => rfl); (case hg => rfl); (case hr => first | (go_simp; done) | (go_simp; rfl)); (case hp => exact (Reps.c3 (show Kd.FK k52 _ _ (⟨a1, 0, ([] : List (S56))⟩ : S52) [.string a1, .int .i64 0, .slice none 0 0] from (sw_k52_mkF _ _ (⟨a1, 0, ([] : List (S56))⟩ : S52) (Nat.le_refl _) (Kd.F_nil _ _ _))) (Reps.none _ _)))
               intro v242 w47 ho48 hb hg_ hnew_
               clear hg_ hnew_
               (first | rw [← Ny241.out] at ho48 | (simp only [Int.reduceToNat] at ho48; rw [← Ny241.out] at ho48))
               have n0_ := Aside0.mk (Kd.N_elder' (by (with_reducible repeat (first | apply Kd.N_alloc | apply Kd.N_drewN | apply Kd.N_drew)); exact HO_8.out) (Kd.N_base ho48) hb)
               have n1_ := Aside0.mk (Kd.V_elder' (by (with_reducible repeat (first | apply Kd.V_alloc | apply Kd.V_drewN | apply Kd.V_drew)); exact HO237.out) (Kd.N_base ho48) hb)
               have n2_ := Aside0.mk (Kd.V_elder' (by (with_reducible repeat (first | apply Kd.V_alloc | apply Kd.V_drewN | apply Kd.V_drew)); exact HO251.out) (Kd.N_base ho48) hb)
               have n3_ := Aside0.mk (Kd.N_elder' (by (with_reducible repeat (first | apply Kd.N_alloc | apply Kd.N_drewN | apply Kd.N_drew)); exact HO232.out) (Kd.N_base ho48) hb)
               have n4_ := Aside0.mk (Kd.N_lower ho48 (below_size qB))
               have n5_ := Aside0.mk (below_step qB hb)
               clear HO_8
               clear HO237
               clear HO251
               clear HO232
               clear HB
               have HO_8 := n0_
               have HO237 := n1_
               have HO251 := n2_
               have HO232 := n3_
               have HO243 := n4_
               have HB := n5_
               clear n0_ n1_ n2_ n3_ n4_ n5_
               clear hb ho48
               refine hK.out _ _ trivial (fun hHeld => ?_)
               clear hK K
               refine norm_ (a' := ?_) ?_ ?_
               rotate_left
               ·show Act.put _ (some 46) _ = _
                simp only [Act.put, sT, s0, sS, i64_w, i32_w]
                rfl
               refine one_ (i := 4) (N := some 43) (tf 14 3839) rfl rfl (one_of HT_.out (by kernel_rfl)) (by decide) (fun K hK => ?_)
               refine Kd.N_append_rows_step k52 (w0 := w) w.heap.size (by rfl) (.tmp 39) (.tmp 42) 25 52 (.agg #[(.string ⟨#[]⟩), (.int .i64 0), (.slice none 0 0)]) 48 rfl Try.underlying25 info52 rfl (by decide) (by omega) v231 y230 y233 _ _ _ (fun k_ => (w.heap.size ≤ k_) ∧ some k_ ≠ (v242 : Value).ownBlock) (fun k_ => ((fun k_ => (w.heap.size ≤ k_) ∧ some k_ ≠ (v242 : Value).ownBlock)) k_ ∧ some k_ ≠ (v231 : Value).ownBlock) rfl rfl ?aO ?aR (fun _ hk => hk) ?aF ?aB ?aS ?aL ?_
               (case aR => exact (by skip; exact Kd.V_F (Kd.V_mono (ok' := (fun k_ => ((fun k_ => (w.heap.size ≤ k_) ∧ some k_ ≠ (v242 : Value).ownBlock)) k_ ∧ some k_ ≠ (v231 : Value).ownBlock)) (HO237.out) (fun k_ hk => ⟨⟨hk.1.1, hk.2⟩, hk.1.2⟩))))
               (case aB => exact qB)
               (case aF => exact (fun k_ hk => ⟨(Nat.le_trans (below_size qB) hk), Kd.fresh' (Kd.N_lt (by (with_reducible repeat (first | apply Kd.N_alloc | apply Kd.N_drewN | apply Kd.N_drew)); exact HO243.out)) k_ hk⟩))
               (case aO => exact (by (with_reducible repeat (first | apply Kd.N_alloc | apply Kd.N_drewN | apply Kd.N_drew)); exact Kd.N_mono HO232.out (fun _ hk => ⟨hk.1.1, hk.2⟩)))
               (case aS => exact (below_size qB))
               (case aL => have := LMc37.out; omega)
               intro v239 w49 ho hb hg hat
               rw [← Ny238.out] at ho
               have n0_ := Aside0.mk (Kd.N_afterv (ok := (fun k_ => (w.heap.size ≤ k_) ∧ some k_ ≠ (v242 : Value).ownBlock)) (by (with_reducible repeat (first | apply Kd.N_alloc | apply Kd.N_drewN | apply Kd.N_drew)); exact Kd.N_mono HO_8.out (fun _ hk => ⟨⟨hk.1.1, hk.2⟩, hk.1.2⟩)) hg hat)
               have n1_ := Aside0.mk (Kd.V_afterv (ok := (fun k_ => (w.heap.size ≤ k_) ∧ some k_ ≠ (v242 : Value).ownBlock)) (by (with_reducible repeat (first | apply Kd.V_alloc | apply Kd.V_drewN | apply Kd.V_drew)); exact Kd.V_mono HO237.out (fun _ hk => ⟨⟨hk.1.1, hk.2⟩, hk.1.2⟩)) hg hat)
               have n2_ := Aside0.mk (Kd.V_afterv (ok := (fun k_ => (w.heap.size ≤ k_) ∧ some k_ ≠ (v242 : Value).ownBlock)) (by (with_reducible repeat (first | apply Kd.V_alloc | apply Kd.V_drewN | apply Kd.V_drew)); exact Kd.V_mono HO251.out (fun _ hk => ⟨⟨hk.1.1, hk.2⟩, hk.1.2⟩)) hg hat)
               have n3_ := Aside0.mk (Kd.N_afterv (ok := (fun k_ => (w.heap.size ≤ k_) ∧ some k_ ≠ (.slice Ao11 t200.length co11 : Value).ownBlock)) (by (with_reducible repeat (first | apply Kd.N_alloc | apply Kd.N_drewN | apply Kd.N_drew)); exact Kd.N_mono HO243.out (fun _ hk => ⟨⟨hk.1, hk.2.1⟩, hk.2.2⟩)) hg hat)
               have n4_ := Aside0.mk (hb)
               have n5_ := Aside0.mk (ho)
               clear HO_8
               clear HO237
               clear HO251
               clear HO243
               clear HB
               clear HO232
               have HO_8 := n0_
               have HO237 := n1_
               have HO251 := n2_
               have HO243 := n3_
               have HB := n4_
               have HO240 := n5_
               clear n0_ n1_ n2_ n3_ n4_ n5_
               clear ho hb hg hat
               refine hK.out _ _ trivial (fun hHeld => ?_)
               clear hK K
               refine norm_ (a' := ?_) ?_ ?_
               rotate_left
               ·show Act.put _ (some 43) _ = _
                simp only [Act.put, sT, s0, sS, i64_w, i32_w]
                rfl
               exact norm_ (by simp only [putAll, Act.put, List.setIfInBounds_toArray, List.set_cons_zero, List.set_cons_succ]) (hCont (v231, v239, v242) _ ⟨(by (with_reducible repeat (first | apply Kd.V_alloc | apply Kd.V_drewN | apply Kd.V_drew)); exact Kd.V_mono HO237.out (fun _ hk => ⟨hk.1.1, ⟨hk.2, hk.1.2⟩⟩)), (by (with_reducible repeat (first | apply Kd.N_alloc | apply Kd.N_drewN | apply Kd.N_drew)); exact HO240.out), (by (with_reducible repeat (first | apply Kd.N_alloc | apply Kd.N_drewN | apply Kd.N_drew)); exact Kd.N_mono HO243.out (fun _ hk => ⟨hk.1.1, ⟨hk.2, hk.1.2⟩⟩)), (by (with_reducible repeat (first | apply Kd.V_alloc | apply Kd.V_drewN | apply Kd.V_drew)); exact Kd.V_mono HO251.out (fun _ hk => ⟨hk.1.1, ⟨hk.2, hk.1.2⟩⟩)), (by (with_reducible repeat (first | apply Kd.N_alloc | apply Kd.N_drewN | apply Kd.N_drew)); exact Kd.N_mono HO_8.out (fun _ hk => ⟨hk.1.1, ⟨hk.2, hk.1.2⟩⟩)), qB⟩)
             ·skip
              refine Kd.N_lit_step k52 _ 52 ?hg (N' := 46) ?hd (xs := ([(⟨a1, 0, ([] : List (S56))⟩ : S52)] : List (S52))) (inner := [.string a1, .int .i64 0, .slice none 0 0]) (ok := (fun k_ => (w.heap.size ≤ k_) ∧ some k_ ≠ (.slice Ao11 t200.length co11 : Value).ownBlock)) (okp := (fun k_ => (w.heap.size ≤ k_) ∧ some k_ ≠ (.slice Ao11 t200.length co11 : Value).ownBlock)) ?hr ?hp (fun _ hk => hk) ((show ∀ k_, w42.heap.size ≤ k_ → (fun k_ => (w.heap.size ≤ k_) ∧ some k_ ≠ (.slice Ao11 t200.length co11 : Value).ownBlock) k_ from fun k_ hk => ⟨(Nat.le_trans (below_size qB) hk), Kd.fresh' (Kd.N_lt (by (with_reducible repeat (first | apply Kd.N_alloc | apply Kd.N_drewN | apply Kd.N_drew)); exact HO_8.out)) k_ hk⟩) _ (Nat.le_refl _)) (Below.refl _ _) (Nat.le_refl _) (by simp) ?_; (case hd => rfl); (case hg => rfl); (case hr => first | (go_simp; done) | (go_simp; rfl)); (case hp => exact (Reps.c3 (show Kd.FK k52 _ _ (⟨a1, 0, ([] : List (S56))⟩ : S52) [.string a1, .int .i64 0, .slice none 0 0] from (sw_k52_mkF _ _ (⟨a1, 0, ([] : List (S56))⟩ : S52) (Nat.le_refl _) (Kd.F_nil _ _ _))) (Reps.none _ _)))
              intro v242 w45 ho46 hb hg_ hnew_
              clear hg_ hnew_
              (first | rw [← Ny241.out] at ho46 | (simp only [Int.reduceToNat] at ho46; rw [← Ny241.out] at ho46))
              have n0_ := Aside0.mk (Kd.N_elder' (by (with_reducible repeat (first | apply Kd.N_alloc | apply Kd.N_drewN | apply Kd.N_drew)); exact HO_8.out) (Kd.N_base ho46) hb)
              have n1_ := Aside0.mk (Kd.V_elder' (by (with_reducible repeat (first | apply Kd.V_alloc | apply Kd.V_drewN | apply Kd.V_drew)); exact HO237.out) (Kd.N_base ho46) hb)
              have n2_ := Aside0.mk (Kd.V_elder' (by (with_reducible repeat (first | apply Kd.V_alloc | apply Kd.V_drewN | apply Kd.V_drew)); exact HO251.out) (Kd.N_base ho46) hb)
              have n3_ := Aside0.mk (Kd.N_lower ho46 (below_size qB))
              have n4_ := Aside0.mk (below_step qB hb)
              clear HO_8
              clear HO237
              clear HO251
              clear HB
              have HO_8 := n0_
              have HO237 := n1_
              have HO251 := n2_
              have HO243 := n3_
              have HB := n4_
              clear n0_ n1_ n2_ n3_ n4_
              clear hb ho46
              refine hK.out _ _ trivial (fun hHeld => ?_)
              clear hK K
              refine norm_ (a' := ?_) ?_ ?_
              rotate_left
              ·show Act.put _ (some 46) _ = _
               simp only [Act.put, sT, s0, sS, i64_w, i32_w]
               rfl
              refine one_ (i := 0) (N := some 39) (tf 14 3823) rfl rfl (one_of HT_.out (by kernel_rfl)) (by decide) (fun K hK => ?_)
              refine Kd.N_lit_step k52 _ 52 ?hg (N' := 39) ?hd (xs := ([] : List (S52))) (inner := []) (ok := (fun k_ => (w.heap.size ≤ k_) ∧ some k_ ≠ (.slice Ao11 t200.length co11 : Value).ownBlock ∧ some k_ ≠ (v242 : Value).ownBlock)) (okp := (fun k_ => (w.heap.size ≤ k_) ∧ some k_ ≠ (.slice Ao11 t200.length co11 : Value).ownBlock ∧ some k_ ≠ (v242 : Value).ownBlock)) ?hr ?hp (fun _ hk => hk) ((show ∀ k_, w45.heap.size ≤ k_ → (fun k_ => (w.heap.size ≤ k_) ∧ some k_ ≠ (.slice Ao11 t200.length co11 : Value).ownBlock ∧ some k_ ≠ (v242 : Value).ownBlock) k_ from fun k_ hk => ⟨(Nat.le_trans (below_size qB) hk), Kd.fresh' (Kd.N_lt (by (with_reducible repeat (first | apply Kd.N_alloc | apply Kd.N_drewN | apply Kd.N_drew)); exact HO_8.out)) k_ hk, Kd.fresh' (Kd.N_lt (by (with_reducible repeat (first | apply Kd.N_alloc | apply Kd.N_drewN | apply Kd.N_drew)); exact HO243.out)) k_ hk⟩) _ (Nat.le_refl _)) (Below.refl _ _) (Nat.le_refl _) (by simp) ?_; (case hd => rfl); (case hg => rfl); (case hr => first | (go_simp; done) | (go_simp; rfl)); (case hp => exact (Reps.none _ _))
              intro v231 w47 ho48 hb hg_ hnew_
              clear hg_ hnew_
              (first | rw [← Ny230.out] at ho48 | (simp only [Int.reduceToNat] at ho48; rw [← Ny230.out] at ho48))
              have n0_ := Aside0.mk (Kd.N_elder' (by (with_reducible repeat (first | apply Kd.N_alloc | apply Kd.N_drewN | apply Kd.N_drew)); exact HO_8.out) (Kd.N_base ho48) hb)
              have n1_ := Aside0.mk (Kd.V_elder' (by (with_reducible repeat (first | apply Kd.V_alloc | apply Kd.V_drewN | apply Kd.V_drew)); exact HO237.out) (Kd.N_base ho48) hb)
              have n2_ := Aside0.mk (Kd.V_elder' (by (with_reducible repeat (first | apply Kd.V_alloc | apply Kd.V_drewN | apply Kd.V_drew)); exact HO251.out) (Kd.N_base ho48) hb)
              have n3_ := Aside0.mk (Kd.N_elder' (by (with_reducible repeat (first | apply Kd.N_alloc | apply Kd.N_drewN | apply Kd.N_drew)); exact HO243.out) (Kd.N_base ho48) hb)
              have n4_ := Aside0.mk (Kd.N_lower ho48 (below_size qB))
              have n5_ := Aside0.mk (below_step qB hb)
              clear HO_8
              clear HO237
              clear HO251
              clear HO243
              clear HB
              have HO_8 := n0_
              have HO237 := n1_
              have HO251 := n2_
              have HO243 := n3_
              have HO232 := n4_
              have HB := n5_
              clear n0_ n1_ n2_ n3_ n4_ n5_
              clear hb ho48
              refine hK.out _ _ trivial (fun hHeld => ?_)
              clear hK K
              refine norm_ (a' := ?_) ?_ ?_
              rotate_left
              ·show Act.put _ (some 39) _ = _
               simp only [Act.put, sT, s0, sS, i64_w, i32_w]
               rfl
              refine one_ (i := 4) (N := some 43) (tf 14 3839) rfl rfl (one_of HT_.out (by kernel_rfl)) (by decide) (fun K hK => ?_)
              refine Kd.N_append_rows_step k52 (w0 := w) w.heap.size (by rfl) (.tmp 39) (.tmp 42) 25 52 (.agg #[(.string ⟨#[]⟩), (.int .i64 0), (.slice none 0 0)]) 48 rfl Try.underlying25 info52 rfl (by decide) (by omega) v231 y230 y233 _ _ _ (fun k_ => (w.heap.size ≤ k_) ∧ some k_ ≠ (v242 : Value).ownBlock) (fun k_ => ((fun k_ => (w.heap.size ≤ k_) ∧ some k_ ≠ (v242 : Value).ownBlock)) k_ ∧ some k_ ≠ (v231 : Value).ownBlock) rfl rfl ?aO ?aR (fun _ hk => hk) ?aF ?aB ?aS ?aL ?_
              (case aR => exact (by skip; exact Kd.V_F (Kd.V_mono (ok' := (fun k_ => ((fun k_ => (w.heap.size ≤ k_) ∧ some k_ ≠ (v242 : Value).ownBlock)) k_ ∧ some k_ ≠ (v231 : Value).ownBlock)) (HO237.out) (fun k_ hk => ⟨⟨hk.1.1, hk.1.2⟩, hk.2⟩))))
              (case aB => exact qB)
              (case aF => exact (fun k_ hk => ⟨(Nat.le_trans (below_size qB) hk), Kd.fresh' (Kd.N_lt (by (with_reducible repeat (first | apply Kd.N_alloc | apply Kd.N_drewN | apply Kd.N_drew)); exact HO243.out)) k_ hk⟩))
              (case aO => exact (by (with_reducible repeat (first | apply Kd.N_alloc | apply Kd.N_drewN | apply Kd.N_drew)); exact Kd.N_mono HO232.out (fun _ hk => ⟨hk.1, hk.2.2⟩)))
              (case aS => exact (below_size qB))
              (case aL => have := LMc37.out; omega)
              intro v239 w49 ho hb hg hat
              rw [← Ny238.out] at ho
              have n0_ := Aside0.mk (Kd.N_afterv (ok := (fun k_ => (w.heap.size ≤ k_) ∧ some k_ ≠ (v242 : Value).ownBlock)) (by (with_reducible repeat (first | apply Kd.N_alloc | apply Kd.N_drewN | apply Kd.N_drew)); exact HO_8.out) hg hat)
              have n1_ := Aside0.mk (Kd.V_afterv (ok := (fun k_ => (w.heap.size ≤ k_) ∧ some k_ ≠ (v242 : Value).ownBlock)) (by (with_reducible repeat (first | apply Kd.V_alloc | apply Kd.V_drewN | apply Kd.V_drew)); exact HO237.out) hg hat)
              have n2_ := Aside0.mk (Kd.V_afterv (ok := (fun k_ => (w.heap.size ≤ k_) ∧ some k_ ≠ (v242 : Value).ownBlock)) (by (with_reducible repeat (first | apply Kd.V_alloc | apply Kd.V_drewN | apply Kd.V_drew)); exact HO251.out) hg hat)
              have n3_ := Aside0.mk (Kd.N_afterv (ok := (fun k_ => (w.heap.size ≤ k_) ∧ some k_ ≠ (.slice Ao11 t200.length co11 : Value).ownBlock)) (by (with_reducible repeat (first | apply Kd.N_alloc | apply Kd.N_drewN | apply Kd.N_drew)); exact HO243.out) hg hat)
              have n4_ := Aside0.mk (hb)
              have n5_ := Aside0.mk (ho)
              clear HO_8
              clear HO237
              clear HO251
              clear HO243
              clear HB
              clear HO232
              have HO_8 := n0_
              have HO237 := n1_
              have HO251 := n2_
              have HO243 := n3_
              have HB := n4_
              have HO240 := n5_
              clear n0_ n1_ n2_ n3_ n4_ n5_
              clear ho hb hg hat
              refine hK.out _ _ trivial (fun hHeld => ?_)
              clear hK K
              refine norm_ (a' := ?_) ?_ ?_
              rotate_left
              ·show Act.put _ (some 43) _ = _
               simp only [Act.put, sT, s0, sS, i64_w, i32_w]
               rfl
              exact norm_ (by simp only [putAll, Act.put, List.setIfInBounds_toArray, List.set_cons_zero, List.set_cons_succ]) (hCont (v231, v239, v242) _ ⟨(by (with_reducible repeat (first | apply Kd.V_alloc | apply Kd.V_drewN | apply Kd.V_drew)); exact Kd.V_mono HO237.out (fun _ hk => ⟨hk.1.1, ⟨hk.2, hk.1.2⟩⟩)), (by (with_reducible repeat (first | apply Kd.N_alloc | apply Kd.N_drewN | apply Kd.N_drew)); exact HO240.out), (by (with_reducible repeat (first | apply Kd.N_alloc | apply Kd.N_drewN | apply Kd.N_drew)); exact Kd.N_mono HO243.out (fun _ hk => ⟨hk.1.1, ⟨hk.2, hk.1.2⟩⟩)), (by (with_reducible repeat (first | apply Kd.V_alloc | apply Kd.V_drewN | apply Kd.V_drew)); exact Kd.V_mono HO251.out (fun _ hk => ⟨hk.1.1, ⟨hk.2, hk.1.2⟩⟩)), (by (with_reducible repeat (first | apply Kd.N_alloc | apply Kd.N_drewN | apply Kd.N_drew)); exact Kd.N_mono HO_8.out (fun _ hk => ⟨hk.1.1, ⟨hk.2, hk.1.2⟩⟩)), qB⟩)
            rintro ⟨v231, v239, v242⟩ w50 ⟨h0_, h1_, h2_, h3_, h4_, h5_⟩
            have n0_ : Aside0 (Kd.V k52 52 w50 w.heap.size (fun k_ => (w.heap.size ≤ k_) ∧ some k_ ≠ (v239 : Value).ownBlock ∧ some k_ ≠ (v242 : Value).ownBlock) (.slice Ao11 y233.length co11) y233) := ⟨h0_⟩
            have n1_ : Aside0 (Kd.N k52 52 w50 w.heap.size (fun k_ => (w.heap.size ≤ k_) ∧ some k_ ≠ (v242 : Value).ownBlock) v239 y238) := ⟨h1_⟩
            have n2_ : Aside0 (Kd.N k52 52 w50 w.heap.size (fun k_ => (w.heap.size ≤ k_) ∧ some k_ ≠ (v239 : Value).ownBlock ∧ some k_ ≠ (.slice Ao11 t200.length co11 : Value).ownBlock) v242 y241) := ⟨h2_⟩
            have n3_ : Aside0 (Kd.V k52 52 w50 w.heap.size (fun k_ => (w.heap.size ≤ k_) ∧ some k_ ≠ (v239 : Value).ownBlock ∧ some k_ ≠ (v242 : Value).ownBlock) (.slice A44 y247.length c44) y247) := ⟨h3_⟩
            have n4_ : Aside0 (Kd.N k52 52 w50 w.heap.size (fun k_ => (w.heap.size ≤ k_) ∧ some k_ ≠ (v239 : Value).ownBlock ∧ some k_ ≠ (v242 : Value).ownBlock) (.slice Ao11 t200.length co11) t200) := ⟨h4_⟩
            have n5_ : Aside0 (Below w.heap.size w w50) := ⟨h5_⟩
            clear HO_8
            clear HB
            clear h0_ h1_ h2_ h3_ h4_ h5_
            have HO237 := n0_
            have HO240 := n1_
            have HO243 := n2_
            have HO251 := n3_
            have HO_8 := n4_
            have HB := n5_
            clear n0_ n1_ n2_ n3_ n4_ n5_
            have hHeld := trivial
            obtain ⟨Ao52, co52, eo52⟩ := Kd.N_slice HO243.out
            (first | subst eo52 | (injection eo52 with f1_ f2_ f3_; have f4_ := f1_.symm; have f5_ := f3_.symm; clear f1_ f2_ f3_; subst f4_; subst f5_))
            refine norm_ (a' := ?_) ?_ ?_
            (rotate_left; · simp only [putAll, Act.put, List.setIfInBounds_toArray, List.set_cons_zero, List.set_cons_succ]; rfl)
            refine one_ (i := 8) (N := some 47) (tf 14 4095) rfl rfl (one_of HT_.out (by kernel_rfl)) (by decide) (fun K hK => ?_)
            refine Kd.N_append_rows_step k52 (w0 := w) w.heap.size (by rfl) (.tmp 43) (.tmp 46) 25 52 (.agg #[(.string ⟨#[]⟩), (.int .i64 0), (.slice none 0 0)]) 48 rfl Try.underlying25 info52 rfl (by decide) (by omega) v239 y238 y241 _ _ _ (fun k_ => (w.heap.size ≤ k_)) (fun k_ => ((fun k_ => (w.heap.size ≤ k_))) k_ ∧ some k_ ≠ (v239 : Value).ownBlock) rfl rfl ?aO ?aR (fun _ hk => hk) ?aF ?aB ?aS ?aL ?_
            (case aR => exact (by skip; exact Kd.N_F (Kd.N_mono (ok' := (fun k_ => ((fun k_ => (w.heap.size ≤ k_))) k_ ∧ some k_ ≠ (v239 : Value).ownBlock)) (HO243.out) (fun k_ hk => ⟨hk.1, hk.2.1⟩))))
            (case aB => exact qB)
            (case aF => exact (fun k_ hk => (Nat.le_trans (below_size qB) hk)))
            (case aO => exact (by (with_reducible repeat (first | apply Kd.N_alloc | apply Kd.N_drewN | apply Kd.N_drew)); exact Kd.N_mono HO240.out (fun _ hk => hk.1)))
            (case aS => exact (below_size qB))
            (case aL => have := LMc38.out; omega)
            intro v245 w51 ho hb hg hat
            rw [← Ny244.out] at ho
            have n0_ := Aside0.mk (Kd.N_afterv (ok := (fun k_ => (w.heap.size ≤ k_) ∧ some k_ ≠ (.slice Ao52 y241.length co52 : Value).ownBlock)) (by (with_reducible repeat (first | apply Kd.N_alloc | apply Kd.N_drewN | apply Kd.N_drew)); exact Kd.N_mono HO_8.out (fun _ hk => ⟨⟨hk.1, hk.2.2⟩, hk.2.1⟩)) hg hat)
            have n1_ := Aside0.mk (Kd.V_afterv (ok := (fun k_ => (w.heap.size ≤ k_) ∧ some k_ ≠ (.slice Ao52 y241.length co52 : Value).ownBlock)) (by (with_reducible repeat (first | apply Kd.V_alloc | apply Kd.V_drewN | apply Kd.V_drew)); exact Kd.V_mono HO237.out (fun _ hk => ⟨⟨hk.1, hk.2.2⟩, hk.2.1⟩)) hg hat)
            have n2_ := Aside0.mk (Kd.V_afterv (ok := (fun k_ => (w.heap.size ≤ k_) ∧ some k_ ≠ (.slice Ao52 y241.length co52 : Value).ownBlock)) (by (with_reducible repeat (first | apply Kd.V_alloc | apply Kd.V_drewN | apply Kd.V_drew)); exact Kd.V_mono HO251.out (fun _ hk => ⟨⟨hk.1, hk.2.2⟩, hk.2.1⟩)) hg hat)
            have n3_ := Aside0.mk (Kd.N_afterv (ok := (fun k_ => (w.heap.size ≤ k_) ∧ some k_ ≠ (.slice Ao11 t200.length co11 : Value).ownBlock)) (by (with_reducible repeat (first | apply Kd.N_alloc | apply Kd.N_drewN | apply Kd.N_drew)); exact Kd.N_mono HO243.out (fun _ hk => ⟨⟨hk.1, hk.2.2⟩, hk.2.1⟩)) hg hat)
            have n4_ := Aside0.mk (hb)
            have n5_ := Aside0.mk (ho)
            clear HO_8
            clear HO237
            clear HO251
            clear HO243
            clear HB
            clear HO240
            have HO_8 := n0_
            have HO237 := n1_
            have HO251 := n2_
            have HO243 := n3_
            have HB := n4_
            have HO246 := n5_
            clear n0_ n1_ n2_ n3_ n4_ n5_
            clear ho hb hg hat
            refine hK.out _ _ trivial (fun hHeld => ?_)
            clear hK K
            refine norm_ (a' := ?_) ?_ ?_
            rotate_left
            ·show Act.put _ (some 47) _ = _
             simp only [Act.put, sT, s0, sS, i64_w, i32_w]
             rfl
            refine one_ (i := 12) (N := some 51) (tf 14 8191) rfl rfl (one_of HT_.out (by kernel_rfl)) (by decide) (fun K hK => ?_)
            refine Kd.N_append_rows_step k52 (w0 := w) w.heap.size (by rfl) (.tmp 47) (.tmp 50) 25 52 (.agg #[(.string ⟨#[]⟩), (.int .i64 0), (.slice none 0 0)]) 48 rfl Try.underlying25 info52 rfl (by decide) (by omega) v245 y244 y247 _ _ _ (fun k_ => (w.heap.size ≤ k_)) (fun k_ => ((fun k_ => (w.heap.size ≤ k_))) k_ ∧ some k_ ≠ (v245 : Value).ownBlock) rfl rfl ?aO ?aR (fun _ hk => hk) ?aF ?aB ?aS ?aL ?_
            (case aR => exact (by skip; exact Kd.V_F (Kd.V_mono (ok' := (fun k_ => ((fun k_ => (w.heap.size ≤ k_))) k_ ∧ some k_ ≠ (v245 : Value).ownBlock)) (HO251.out) (fun k_ hk => ⟨hk.1.1, hk.2⟩))))
            (case aB => exact qB)
            (case aF => exact (fun k_ hk => (Nat.le_trans (below_size qB) hk)))
            (case aO => exact (by (with_reducible repeat (first | apply Kd.N_alloc | apply Kd.N_drewN | apply Kd.N_drew)); exact HO246.out))
            (case aS => exact (below_size qB))
            (case aL => have := LMc41.out; omega)
            intro v253 w53 ho hb hg hat
            rw [← Ny252.out] at ho
            have n0_ := Aside0.mk (Kd.N_afterv (ok := (fun k_ => (w.heap.size ≤ k_) ∧ some k_ ≠ (.slice Ao52 y241.length co52 : Value).ownBlock)) (by (with_reducible repeat (first | apply Kd.N_alloc | apply Kd.N_drewN | apply Kd.N_drew)); exact HO_8.out) hg hat)
            have n1_ := Aside0.mk (Kd.V_afterv (ok := (fun k_ => (w.heap.size ≤ k_) ∧ some k_ ≠ (.slice Ao52 y241.length co52 : Value).ownBlock)) (by (with_reducible repeat (first | apply Kd.V_alloc | apply Kd.V_drewN | apply Kd.V_drew)); exact HO237.out) hg hat)
            have n2_ := Aside0.mk (Kd.V_afterv (ok := (fun k_ => (w.heap.size ≤ k_) ∧ some k_ ≠ (.slice Ao52 y241.length co52 : Value).ownBlock)) (by (with_reducible repeat (first | apply Kd.V_alloc | apply Kd.V_drewN | apply Kd.V_drew)); exact HO251.out) hg hat)
            have n3_ := Aside0.mk (Kd.N_afterv (ok := (fun k_ => (w.heap.size ≤ k_) ∧ some k_ ≠ (.slice Ao11 t200.length co11 : Value).ownBlock)) (by (with_reducible repeat (first | apply Kd.N_alloc | apply Kd.N_drewN | apply Kd.N_drew)); exact HO243.out) hg hat)
            have n4_ := Aside0.mk (hb)
            have n5_ := Aside0.mk (ho)
            clear HO_8
            clear HO237
            clear HO251
            clear HO243
            clear HB
            clear HO246
            have HO_8 := n0_
            have HO237 := n1_
            have HO251 := n2_
            have HO243 := n3_
            have HB := n4_
            have HO254 := n5_
            clear n0_ n1_ n2_ n3_ n4_ n5_
            clear ho hb hg hat
            refine hK.out _ _ trivial (fun hHeld => ?_)
            clear hK K
            refine norm_ (a' := ?_) ?_ ?_
            rotate_left
            ·show Act.put _ (some 51) _ = _
             simp only [Act.put, sT, s0, sS, i64_w, i32_w]
             rfl
            refine qA 13 8 (tf 14 16383) ?_
            refine done_ (done_of HT_.out (by kernel_rfl)) ?_
            try go_wp2
            go_meet
            case rel => exact ⟨_, (y252), (x10_1), (by first | rfl | (simp; done) | (simp [*]; done)), H', ⟨by have := HK1.out; first | omega | exact Nat.le_refl _⟩, ⟨by (with_reducible repeat (first | apply Kd.N_alloc | apply Kd.N_drewN | apply Kd.N_drew)); exact HO254.out⟩, ⟨by repeat (first | (with_reducible first | exact HB.out | apply below_alloc | apply pw_below_drewN | apply below_drew1) | exact HB.out)⟩⟩
           ·rw [if_neg c41] at H
            exact absurd H (by simp)
          ·rw [if_neg c38] at H
           exact absurd H (by simp)
         ·rw [if_neg c37] at H
          exact absurd H (by simp)
        ·rw [if_neg c36] at H
         exact absurd H (by simp)
       ·rw [if_neg c35] at H
        exact absurd H (by simp)
   ·rw [if_neg c12] at H
    have c12b0 : decide (t203 < 0) = false := decide_eq_false c12
    clear c12
    (first | rw [c12b0] | (simp only [i64_w, i32_w]; rw [c12b0]) | skip)
    have H' := Aside0.mk H
    clear H
    go_wp2
    go_meet
    case rel => exact ⟨_, (t200), (t203), (by first | rfl | (simp; done) | (simp [*]; done)), H', ⟨by first | omega | exact Nat.le_refl _⟩, ⟨by (with_reducible repeat (first | apply Kd.N_alloc | apply Kd.N_drewN | apply Kd.N_drew)); exact HO202.out⟩, ⟨by repeat (first | (with_reducible first | exact HB.out | apply below_alloc | apply pw_below_drewN | apply below_drew1) | exact HB.out)⟩⟩
  case rest =>
   clear HC8
   try clear c1
   try clear c2
   try clear p2
   try clear c3
   try clear c4
   try clear q4
   try clear c12
   try clear c12b0
   try clear c13
   try clear c13b0
   try clear c14
   try clear c17
   try clear c18
   try clear c19
   try clear c22
   try clear c35
   try clear c35b0
   try clear c35b1
   try clear c36
   try clear c36b0
   try clear c36b1
   try clear c37
   try clear c38
   try clear c39
   try clear c39b0
   try clear c40
   try clear c40b0
   try clear c41
   try clear q43
   try clear c44
   try clear q44
   try clear q044
   try clear q43
   try clear q44
   obtain ⟨kq, x8_7, x9_7, rfl, HA, HJ7, HO_8, HB⟩ := hcut
   cases kq with
   | zero => exact absurd HA.out (by simp [spec_Switch.j1])
   | succ kj7 =>
    have H := HA.out
    clear HA
    simp only [spec_Switch.j1] at H
    by_cases c54 : 0 ≤ x9_7
    ·rw [if_pos c54] at H
     have c54b0 : decide (0 ≤ x9_7) = true := decide_eq_true c54
     clear c54
     by_cases c55 : x9_7 < (x8_7.length : Int)
     ·rw [if_pos c55] at H
      have c55b0 : decide (x9_7 < (x8_7.length : Int)) = true := decide_eq_true c55
      clear c55
      have HC56 := Aside0.mk H
      clear H
      obtain ⟨Ao57, co57, eo57⟩ := Kd.N_slice HO_8.out
      subst eo57
      have p255 : 0 ≤ (x9_7 : Int) := of_decide_eq_true (by first | (with_reducible assumption) | assumption)
      have q255 : x9_7 < (x8_7.length : Int) := of_decide_eq_true (by first | (with_reducible assumption) | assumption)
      obtain ⟨ad255, A255_2, c255_2, e255, hx255_0, hx255_1, hx255_2, hl255_2, hi255_2⟩ := at_T52 (Kd.N_reads' HO_8.out).2.2 x9_7 p255 q255
      cases e255
      obtain ⟨ce255, hce255, hMe255, hcc255⟩ := Kd.N_get HO_8.out z52 x9_7 p255 (by first | exact q255 | exact of_decide_eq_true (by first | (with_reducible assumption) | assumption) | (have e_ := (Kd.N_reads' HO_8.out).1; omega))
      obtain ⟨ua255_2, uc255_2, rfl, ul255_2, ge255_2⟩ := sw_k52_openF hMe255
      have hv255_2 := hcc255 2 _ rfl
      rw [add_field _ _ 2 (by omega)] at hv255_2
      replace hv255_2 := Option.some.inj (hv255_2.symm.trans hx255_2)
      injection hv255_2 with hva_ hvn_ hvc_
      rw [hva_] at ge255_2
      rw [hvc_] at ul255_2
      have HL255_2 := Aside0.mk (show Kd.V k56 56 _ w.heap.size _ _ ((rd_T52 x8_7 x9_7).f2) from Kd.V_mk ul255_2 ge255_2)
      clear hva_ hvn_ hvc_ ge255_2 ul255_2
      clear hcc255 hce255
      have HR255_2 := Aside0.mk hi255_2
      have HC255_2 := Aside0.mk hl255_2
      clear hi255_2 hl255_2
      replace p255 := eq_true p255
      replace q255 := eq_true q255
      go_upto_region 12 with (first | ((with_reducible refine gate_dst (N := 11) rfl ?_); go_loud (refine box_event ?hg (N := 11) ?hd (cs := #[.string (⟨#[]⟩ : ByteArray), .int .i64 0, .slice none 0 0]) (t := 52) ?hr ?_; (case hd => rfl); (case hg => rfl); (case hr => first | (go_simp; done) | (go_simp; rfl)); intro gbx hgx w7b hbox hb; have HSz := Aside0.mk hb; have BKz := Aside0.mk hbox; have GEz := Aside0.mk (show wc.heap.size ≤ gbx from by rw [hgx]; exact Nat.le_refl _); clear hb hbox hgx; have hcz_0 : w7b.cell? ⟨gbx, 0, none⟩ = some _ := (blk_cell BKz.out 0).trans rfl; have hfz_0 := blk_frozen BKz.out 0; have hcz_1 : w7b.cell? ⟨gbx, 1, none⟩ = some _ := (blk_cell BKz.out 1).trans rfl; have hfz_1 := blk_frozen BKz.out 1; have hcz_2 : w7b.cell? ⟨gbx, 2, none⟩ = some _ := (blk_cell BKz.out 2).trans rfl; have hfz_2 := blk_frozen BKz.out 2)) | ((with_reducible refine gate_store (t := 52) (p := 11) rfl ?_); go_loud (refine store_event (t := 52) (p := 11) (v := ?vo_b) (w1 := (((w7b.setCell ⟨gbx, 0, none⟩ (.string ((rd_T52 x8_7 x9_7).f0))).setCell ⟨gbx, 1, none⟩ (.int .i64 ((rd_T52 x8_7 x9_7).f1))).setCell ⟨gbx, 2, none⟩ (.slice A255_2 ((rd_T52 x8_7 x9_7).f2).length c255_2))) ?hg ?ho ?hn ?hr ?_; (case ho => rfl); (case hg => rfl); (case hn => rfl); (case hr => first | (go_simp; done) | (go_simp; rfl)); intro w8b hw; have HS := Aside0.mk (show Below wc.heap.size wc w8b from by rw [hw]; exact below_set (below_set (below_set HSz.out GEz.out) GEz.out) GEz.out); have BKb := Aside0.mk (show w8b.heap[gbx]? = some (.cells #[.string ((rd_T52 x8_7 x9_7).f0), .int .i64 ((rd_T52 x8_7 x9_7).f1), .slice A255_2 ((rd_T52 x8_7 x9_7).f2).length c255_2] 52 (0, 0)) from by rw [hw]; exact blk_set (blk_set (blk_set BKz.out 0 _) 1 _) 2 _); have n0_ := Aside0.mk (Kd.N_below HO_8.out HS.out); have n1_ := Aside0.mk (Kd.V_below HL255_2.out HS.out); have n2_ := Aside0.mk (Kd.C_below HR255_2.out HS.out); have n3_ := Aside0.mk (below_step HB.out HS.out); clear HO_8 HL255_2 HR255_2 HB BKz HSz hw HS; clear hcz_0 hcz_1 hcz_2 hfz_0 hfz_1 hfz_2; have HO_8 := n0_; have HL255_2 := n1_; have HR255_2 := n2_; have HB := n3_; clear n0_ n1_ n2_ n3_)))
      (try simp only [Act.put, List.setIfInBounds_toArray, List.set_cons_zero, List.set_cons_succ])
      go_cut [64] (fun v64 wc => ∃ (kq : Nat) (x64_55 : Bool), v64 = .bool x64_55 ∧ Aside0 (spec_Switch.j2 l0 kq a2 x8_7 x9_7 x64_55 = some (r1, r2)) ∧ Aside0 (kq ≤ kj7) ∧ Aside0 (Kd.N k52 52 wc w.heap.size (fun k_ => (w.heap.size ≤ k_)) (.slice (some ad255) x8_7.length co57) x8_7) ∧ Aside0 (Kd.C k56 wc A255_2 ((rd_T52 x8_7 x9_7).f2).length ((rd_T52 x8_7 x9_7).f2)) ∧ Aside0 (wc.heap[gbx]? = some (.cells #[.string ((rd_T52 x8_7 x9_7).f0), .int .i64 ((rd_T52 x8_7 x9_7).f1), .slice A255_2 ((rd_T52 x8_7 x9_7).f2).length c255_2] 52 (0, 0))) ∧ Aside0 (Below w.heap.size w wc))
      case first =>
       have hbx_0 : World.cell? _ ⟨gbx, 0, none⟩ = some _ := (blk_cell BKb.out 0).trans rfl
       have hbx_1 : World.cell? _ ⟨gbx, 1, none⟩ = some _ := (blk_cell BKb.out 1).trans rfl
       have hbx_2 : World.cell? _ ⟨gbx, 2, none⟩ = some _ := (blk_cell BKb.out 2).trans rfl
       have H := HC56.out
       clear HC56
       by_cases c58 : a2.toList = ([] : List UInt8)
       ·rw [if_pos c58] at H
        have c58b0 : (a2.toList == ([] : List UInt8)) = true := beq_iff_eq.mpr c58
        have c58b1 : (a2.toList != ([] : List UInt8)) = false := bne_eq_false_iff_eq.mpr c58
        clear c58
        (first | rw [c58b0] | (simp only [i64_w, i32_w]; rw [c58b0]) | skip)
        have H' := Aside0.mk H
        clear H
        go_wp2
        go_meet
        case rel => exact ⟨_, (false), (by first | rfl | (simp; done) | (simp [*]; done)), H', ⟨by have := HJ7.out; first | omega | exact Nat.le_refl _⟩, ⟨by (with_reducible repeat (first | apply Kd.N_alloc | apply Kd.N_drewN | apply Kd.N_drew)); exact HO_8.out⟩, ⟨by repeat (first | (with_reducible exact HR255_2.out) | (with_reducible refine Kd.C_alloc ?_ _) | (with_reducible refine Kd.C_drewN ?_ _) | (with_reducible refine Kd.C_drew ?_) | exact HR255_2.out)⟩, ⟨by (with_reducible repeat (first | refine blk_drewN ?_ _ | refine blk_drew ?_ | refine blk_alloc ?_ _)); exact BKb.out⟩, ⟨by repeat (first | (with_reducible first | exact HB.out | apply below_alloc | apply pw_below_drewN | apply below_drew1) | exact HB.out)⟩⟩
       ·rw [if_neg c58] at H
        have c58b0 : (a2.toList == ([] : List UInt8)) = false := beq_eq_false_iff_ne.mpr c58
        have c58b1 : (a2.toList != ([] : List UInt8)) = true := bne_iff_ne.mpr c58
        (first | rw [c58b0] | (simp only [i64_w, i32_w]; rw [c58b0]) | skip)
        replace H := Option.bind_eq_some_iff.mp H
        obtain ⟨t257, A590, H⟩ := H
        replace H : (spec_Switch.j2 l0 kj7 a2 x8_7 x9_7 (t257.toList == a2.toList)) = some (r1, r2) := H
        have A59 := Aside0.mk A590
        clear A590
        have H' := Aside0.mk H
        clear H
        have p256 : 0 ≤ (x9_7 : Int) := of_decide_eq_true (by first | (with_reducible assumption) | assumption)
        have q256 : x9_7 < (x8_7.length : Int) := of_decide_eq_true (by first | (with_reducible assumption) | assumption)
        obtain ⟨ad256, A256_2, c256_2, e256, hx256_0, hx256_1, hx256_2, hl256_2, hi256_2⟩ := at_T52 (Kd.N_reads' HO_8.out).2.2 x9_7 p256 q256
        obtain rfl : ad255 = ad256 := (by injection e256)
        obtain ⟨ce256, hce256, hMe256, hcc256⟩ := Kd.N_get HO_8.out z52 x9_7 p256 (by first | exact q256 | exact of_decide_eq_true (by first | (with_reducible assumption) | assumption) | (have e_ := (Kd.N_reads' HO_8.out).1; omega))
        obtain ⟨ua256_2, uc256_2, rfl, ul256_2, ge256_2⟩ := sw_k52_openF hMe256
        have hv256_2 := hcc256 2 _ rfl
        rw [add_field _ _ 2 (by omega)] at hv256_2
        replace hv256_2 := Option.some.inj (hv256_2.symm.trans hx256_2)
        injection hv256_2 with hva_ hvn_ hvc_
        rw [hva_] at ge256_2
        rw [hvc_] at ul256_2
        have HL256_2 := Aside0.mk (show Kd.V k56 56 _ w.heap.size _ _ ((rd_T52 x8_7 x9_7).f2) from Kd.V_mk ul256_2 ge256_2)
        clear hva_ hvn_ hvc_ ge256_2 ul256_2
        clear hcc256 hce256
        have HR256_2 := Aside0.mk hi256_2
        have HC256_2 := Aside0.mk hl256_2
        clear hi256_2 hl256_2
        replace p256 := eq_true p256
        replace q256 := eq_true q256
        go_wp2_with (first | (go_at_call 38; (with_reducible refine (spec_l13Current.calls kj7 ((rd_T52 x8_7 x9_7).f0) ((rd_T52 x8_7 x9_7).f1) _ _ ((rd_T52 x8_7 x9_7).f2) t257 _ ?side1 ?side2 A59.out).mono ?_); (case side1 => repeat (first | exact (by repeat (first | (with_reducible exact HR255_2.out) | (with_reducible refine Kd.C_alloc ?_ _) | (with_reducible refine Kd.C_drewN ?_ _) | (with_reducible refine Kd.C_drew ?_) | exact HR255_2.out)) | (with_reducible refine Kd.C_alloc ?_ _) | (with_reducible refine Kd.C_drewN ?_ _) | (with_reducible refine Kd.C_drew ?_))); (case side2 => exact HC255_2.out); rintro e w60 ⟨rfl, hb⟩; have nb_ := Aside0.mk (blk_below (qK BKb.out) hb); clear BKb; have BKb := nb_; clear nb_; have n0_ := Aside0.mk (Kd.N_below (by (with_reducible repeat (first | apply Kd.N_alloc | apply Kd.N_drewN | apply Kd.N_drew)); exact HO_8.out) hb); have n1_ := Aside0.mk (Kd.V_below (by (with_reducible repeat (first | apply Kd.V_alloc | apply Kd.V_drewN | apply Kd.V_drew)); exact HL255_2.out) hb); have n2_ := Aside0.mk (Kd.V_below (by (with_reducible repeat (first | apply Kd.V_alloc | apply Kd.V_drewN | apply Kd.V_drew)); exact HL256_2.out) hb); have n3_ := Aside0.mk (Kd.C_below (by repeat (first | (with_reducible exact HR255_2.out) | (with_reducible refine Kd.C_alloc ?_ _) | (with_reducible refine Kd.C_drewN ?_ _) | (with_reducible refine Kd.C_drew ?_) | exact HR255_2.out)) hb); have n4_ := Aside0.mk (Kd.C_below (by repeat (first | (with_reducible exact HR256_2.out) | (with_reducible refine Kd.C_alloc ?_ _) | (with_reducible refine Kd.C_drewN ?_ _) | (with_reducible refine Kd.C_drew ?_) | exact HR256_2.out)) hb); have n5_ := Aside0.mk (below_step qB hb); clear HO_8; clear HL255_2; clear HL256_2; clear HR255_2; clear HR256_2; clear HB; have HO_8 := n0_; have HL255_2 := n1_; have HL256_2 := n2_; have HR255_2 := n3_; have HR256_2 := n4_; have HB := n5_; clear n0_ n1_ n2_ n3_ n4_ n5_; (try clear hb); (try clear hb2); (try clear hk); (try clear hi)))
        go_meet
        case rel => exact ⟨_, ((t257.toList == a2.toList)), (by first | rfl | (simp; done) | (simp [*]; done)), H', ⟨by have := HJ7.out; first | omega | exact Nat.le_refl _⟩, ⟨by (with_reducible repeat (first | apply Kd.N_alloc | apply Kd.N_drewN | apply Kd.N_drew)); exact HO_8.out⟩, ⟨by repeat (first | (with_reducible exact HR255_2.out) | (with_reducible refine Kd.C_alloc ?_ _) | (with_reducible refine Kd.C_drewN ?_ _) | (with_reducible refine Kd.C_drew ?_) | exact HR255_2.out)⟩, ⟨by (with_reducible repeat (first | refine blk_drewN ?_ _ | refine blk_drew ?_ | refine blk_alloc ?_ _)); exact BKb.out⟩, ⟨by repeat (first | (with_reducible first | exact HB.out | apply below_alloc | apply pw_below_drewN | apply below_drew1) | exact HB.out)⟩⟩
      case rest =>
       clear HC56
       try clear c1
       try clear c2
       try clear p2
       try clear q2
       try clear hx2
       try clear c3
       try clear c4
       try clear q4
       try clear c5
       try clear c12
       try clear c12b0
       try clear c13
       try clear c13b0
       try clear c14
       try clear c17
       try clear c18
       try clear c19
       try clear c22
       try clear c25
       try clear p25
       try clear q25
       try clear hx25
       try clear c35
       try clear c35b0
       try clear c35b1
       try clear c36
       try clear c36b0
       try clear c36b1
       try clear c37
       try clear c38
       try clear c39
       try clear c39b0
       try clear c40
       try clear c40b0
       try clear c41
       try clear q43
       try clear c44
       try clear q44
       try clear c54
       try clear c54b0
       try clear c55
       try clear c55b0
       try clear c58
       try clear c58b0
       try clear c58b1
       try clear hx255_0
       try clear hx255_1
       try clear hx255_2
       try clear hx256_0
       try clear hx256_1
       try clear hx256_2
       try clear p2
       try clear p255
       try clear p256
       try clear q044
       try clear q255
       try clear q256
       try clear q4
       try clear q43
       try clear q44
       obtain ⟨kq, x64_55, rfl, HA, HJ55, HO_8, HR255_2, BKb, HB⟩ := hcut
       have hbx_0 : World.cell? _ ⟨gbx, 0, none⟩ = some _ := (blk_cell BKb.out 0).trans rfl
       have hbx_1 : World.cell? _ ⟨gbx, 1, none⟩ = some _ := (blk_cell BKb.out 1).trans rfl
       have hbx_2 : World.cell? _ ⟨gbx, 2, none⟩ = some _ := (blk_cell BKb.out 2).trans rfl
       cases kq with
       | zero => exact absurd HA.out (by simp [spec_Switch.j2])
       | succ kj55 =>
        have H := HA.out
        clear HA
        simp only [spec_Switch.j2] at H
        by_cases c61 : x64_55 = true
        ·subst c61
         have H1 : ((spec_l13Copy.f kj55 l0).bind fun t258 => (some (t258, true))) = some (r1, r2) := by rw [if_pos rfl] at H; exact H
         clear H
         have H := H1
         clear H1
         replace H := Option.bind_eq_some_iff.mp H
         obtain ⟨t258, A620, H⟩ := H
         replace H : (some (t258, true)) = some (r1, r2) := H
         have A62 := Aside0.mk A620
         clear A620
         simp only [Option.some.injEq, Prod.mk.injEq] at H
         obtain ⟨rfl, rfl⟩ := H
         go_wp2_with (first | ((with_reducible refine gate_callee (f := 41) rfl ?_); refine goesL_ (some 66) rfl rfl Try.func41 (by kernel_rfl) rfl #[.slice A0 l0.length c0] rfl (by (try simp only [List.map_toArray, List.map_cons, List.map_nil]); first | done | rfl) ?_; (with_reducible refine (spec_l13Copy.calls kj55 _ _ l0 t258 _ ?side1 ?side2 A62.out).mono ?_); (case side1 => repeat (first | exact (Kd.C_below HR0.out HB.out) | (with_reducible refine Kd.C_alloc ?_ _) | (with_reducible refine Kd.C_drewN ?_ _) | (with_reducible refine Kd.C_drew ?_))); (case side2 => exact HC0.out); rintro e w63 ⟨v259, rfl, ho0, hb⟩; refine ⟨_, rfl, ?_⟩; have n0_ := Aside0.mk (Kd.N_elder' (by (with_reducible repeat (first | apply Kd.N_alloc | apply Kd.N_drewN | apply Kd.N_drew)); exact HO_8.out) (Kd.S_base ho0) hb); have n1_ := Aside0.mk (Kd.N_lower (Kd.N_mono (ok' := fun k_ => (w.heap.size ≤ k_) ∧ some k_ ≠ (.slice (some ad255) x8_7.length co57 : Value).ownBlock) (Kd.S_N (Kd.S_bound ho0)) (fun k_ hk_ => ⟨(Nat.le_trans (below_size qB) hk_.2.1), (Kd.fresh' (Kd.N_lt (by (with_reducible repeat (first | apply Kd.N_alloc | apply Kd.N_drewN | apply Kd.N_drew)); exact HO_8.out)) k_ hk_.2.1)⟩)) (below_size qB)); have n2_ := Aside0.mk (Kd.C_below (by repeat (first | (with_reducible exact HR255_2.out) | (with_reducible refine Kd.C_alloc ?_ _) | (with_reducible refine Kd.C_drewN ?_ _) | (with_reducible refine Kd.C_drew ?_) | exact HR255_2.out)) hb); have n3_ := Aside0.mk (below_step qB hb); clear HO_8; clear HR255_2; clear HB; have HO_8 := n0_; have HO260 := n1_; have HR255_2 := n2_; have HB := n3_; clear n0_ n1_ n2_ n3_; (try clear hb); (try clear hb2); (try clear hk); (try clear hi); (try clear ho0)))
         go_ret2
         exact ⟨_, by first | rfl | (simp [errW_none, errW_some] <;> rfl) | (simp [*, errW_none, errW_some] <;> rfl), by (with_reducible repeat (first | apply Kd.N_alloc | apply Kd.N_drewN | apply Kd.N_drew)); exact Kd.N_mono HO260.out (fun _ hk => hk.1), by repeat (first | (with_reducible first | exact HB.out | apply below_alloc | apply pw_below_drewN | apply below_drew1) | exact HB.out)⟩
        ·replace c61 := Bool.eq_false_iff.mpr c61
         subst c61
         have H1 : (if 0 ≤ x9_7 then (if x9_7 < (x8_7.length : Int) then (if (((rd_T52 x8_7 x9_7).f2).length : Int) > 0 then (if 0 ≤ (wrap64 ((((rd_T52 x8_7 x9_7).f2).length : Int) - 1)) then (if (wrap64 ((((rd_T52 x8_7 x9_7).f2).length : Int) - 1)) < (((rd_T52 x8_7 x9_7).f2).length : Int) then (spec_Switch.j3 l0 kj55 a2 x8_7 x9_7 (wrap64 (((rd_T56 ((rd_T52 x8_7 x9_7).f2) (wrap64 ((((rd_T52 x8_7 x9_7).f2).length : Int) - 1))).f0) + 1))) else (none)) else (none)) else (spec_Switch.j3 l0 kj55 a2 x8_7 x9_7 1)) else (none)) else (none)) = some (r1, r2) := by rw [if_neg (show ¬ (false = true) by decide)] at H; exact H
         clear H
         have H := H1
         clear H1
         by_cases c64 : 0 ≤ x9_7
         ·rw [if_pos c64] at H
          have c64b0 : decide (0 ≤ x9_7) = true := decide_eq_true c64
          clear c64
          by_cases c65 : x9_7 < (x8_7.length : Int)
          ·rw [if_pos c65] at H
           have c65b0 : decide (x9_7 < (x8_7.length : Int)) = true := decide_eq_true c65
           clear c65
           have HC66 := Aside0.mk H
           clear H
           have p261 : 0 ≤ (x9_7 : Int) := of_decide_eq_true (by first | (with_reducible assumption) | assumption)
           have q261 : x9_7 < (x8_7.length : Int) := of_decide_eq_true (by first | (with_reducible assumption) | assumption)
           obtain ⟨ad261, A261_2, c261_2, e261, hx261_0, hx261_1, hx261_2, hl261_2, hi261_2⟩ := at_T52 (Kd.N_reads' HO_8.out).2.2 x9_7 p261 q261
           obtain rfl : ad255 = ad261 := (by injection e261)
           obtain ⟨ce261, hce261, hMe261, hcc261⟩ := Kd.N_get HO_8.out z52 x9_7 p261 (by first | exact q261 | exact of_decide_eq_true (by first | (with_reducible assumption) | assumption) | (have e_ := (Kd.N_reads' HO_8.out).1; omega))
           obtain ⟨ua261_2, uc261_2, rfl, ul261_2, ge261_2⟩ := sw_k52_openF hMe261
           have hv261_2 := hcc261 2 _ rfl
           rw [add_field _ _ 2 (by omega)] at hv261_2
           replace hv261_2 := Option.some.inj (hv261_2.symm.trans hx261_2)
           injection hv261_2 with hva_ hvn_ hvc_
           rw [hva_] at ge261_2
           rw [hvc_] at ul261_2
           have HL261_2 := Aside0.mk (show Kd.V k56 56 _ w.heap.size _ _ ((rd_T52 x8_7 x9_7).f2) from Kd.V_mk ul261_2 ge261_2)
           clear hva_ hvn_ hvc_ ge261_2 ul261_2
           clear hcc261 hce261
           have HR261_2 := Aside0.mk hi261_2
           have HC261_2 := Aside0.mk hl261_2
           clear hi261_2 hl261_2
           replace p261 := eq_true p261
           replace q261 := eq_true q261
           go_upto_if 70 with (fail)
           go_cut [12] (fun v12 wc => ∃ (kq : Nat) (x12_65 : Int), v12 = .int .i64 x12_65 ∧ Aside0 (spec_Switch.j3 l0 kq a2 x8_7 x9_7 x12_65 = some (r1, r2)) ∧ Aside0 (kq ≤ kj55) ∧ Aside0 (Kd.N k52 52 wc w.heap.size (fun k_ => (w.heap.size ≤ k_)) (.slice (some ad255) x8_7.length co57) x8_7) ∧ Aside0 (Kd.C k56 wc A255_2 ((rd_T52 x8_7 x9_7).f2).length ((rd_T52 x8_7 x9_7).f2)) ∧ Aside0 (Kd.C k56 wc A261_2 ((rd_T52 x8_7 x9_7).f2).length ((rd_T52 x8_7 x9_7).f2)) ∧ Aside0 (wc.heap[gbx]? = some (.cells #[.string ((rd_T52 x8_7 x9_7).f0), .int .i64 ((rd_T52 x8_7 x9_7).f1), .slice A255_2 ((rd_T52 x8_7 x9_7).f2).length c255_2] 52 (0, 0))) ∧ Aside0 (Below w.heap.size w wc))
           case first =>
            have hbx_0 : World.cell? _ ⟨gbx, 0, none⟩ = some _ := (blk_cell BKb.out 0).trans rfl
            have hbx_1 : World.cell? _ ⟨gbx, 1, none⟩ = some _ := (blk_cell BKb.out 1).trans rfl
            have hbx_2 : World.cell? _ ⟨gbx, 2, none⟩ = some _ := (blk_cell BKb.out 2).trans rfl
            have H := HC66.out
            clear HC66
            by_cases c67 : (((rd_T52 x8_7 x9_7).f2).length : Int) > 0
            ·rw [if_pos c67] at H
             have c67b0 : decide (0 < (((rd_T52 x8_7 x9_7).f2).length : Int)) = true := decide_eq_true c67
             have c67b1 : decide (0 < ((rd_T52 x8_7 x9_7).f2).length) = true := decide_eq_true (by omega)
             clear c67
             (first | rw [c67b1] | rw [c67b0] | skip)
             obtain ⟨ji68, hji68⟩ : ∃ j_ : Int, (wrap64 ((((rd_T52 x8_7 x9_7).f2).length : Int) - 1)) = j_ := ⟨_, rfl⟩
             replace H : (if 0 ≤ (ji68) then (if (ji68) < (((rd_T52 x8_7 x9_7).f2).length : Int) then (spec_Switch.j3 l0 kj55 a2 x8_7 x9_7 (wrap64 (((rd_T56 ((rd_T52 x8_7 x9_7).f2) (ji68)).f0) + 1))) else (none)) else (none)) = some (r1, r2) := by first | (rw [hji68] at H; exact H) | (simp only [hji68] at H ⊢; exact H)
             have hji68w : (IntKind.i64.wrap ((((rd_T52 x8_7 x9_7).f2).length : Int) - 1)) = ji68 := (i64_w _).trans hji68
             by_cases c69 : 0 ≤ (ji68)
             ·rw [if_pos c69] at H
              have c69b0 : decide (0 ≤ (ji68)) = true := decide_eq_true c69
              clear c69
              by_cases c70 : (ji68) < (((rd_T52 x8_7 x9_7).f2).length : Int)
              ·rw [if_pos c70] at H
               have c70b0 : decide ((ji68) < (((rd_T52 x8_7 x9_7).f2).length : Int)) = true := decide_eq_true c70
               clear c70
               have H' := Aside0.mk H
               clear H
               have p262 : 0 ≤ (x9_7 : Int) := of_decide_eq_true (by first | (with_reducible assumption) | assumption)
               have q262 : x9_7 < (x8_7.length : Int) := of_decide_eq_true (by first | (with_reducible assumption) | assumption)
               obtain ⟨ad262, A262_2, c262_2, e262, hx262_0, hx262_1, hx262_2, hl262_2, hi262_2⟩ := at_T52 (Kd.N_reads' HO_8.out).2.2 x9_7 p262 q262
               obtain rfl : ad255 = ad262 := (by injection e262)
               obtain ⟨ce262, hce262, hMe262, hcc262⟩ := Kd.N_get HO_8.out z52 x9_7 p262 (by first | exact q262 | exact of_decide_eq_true (by first | (with_reducible assumption) | assumption) | (have e_ := (Kd.N_reads' HO_8.out).1; omega))
               obtain ⟨ua262_2, uc262_2, rfl, ul262_2, ge262_2⟩ := sw_k52_openF hMe262
               have hv262_2 := hcc262 2 _ rfl
               rw [add_field _ _ 2 (by omega)] at hv262_2
               replace hv262_2 := Option.some.inj (hv262_2.symm.trans hx262_2)
               injection hv262_2 with hva_ hvn_ hvc_
               rw [hva_] at ge262_2
               rw [hvc_] at ul262_2
               have HL262_2 := Aside0.mk (show Kd.V k56 56 _ w.heap.size _ _ ((rd_T52 x8_7 x9_7).f2) from Kd.V_mk ul262_2 ge262_2)
               clear hva_ hvn_ hvc_ ge262_2 ul262_2
               clear hcc262 hce262
               have HR262_2 := Aside0.mk hi262_2
               have HC262_2 := Aside0.mk hl262_2
               clear hi262_2 hl262_2
               replace p262 := eq_true p262
               replace q262 := eq_true q262
               have p263 : 0 ≤ (x9_7 : Int) := of_decide_eq_true (by first | (with_reducible assumption) | assumption)
               have q263 : x9_7 < (x8_7.length : Int) := of_decide_eq_true (by first | (with_reducible assumption) | assumption)
               obtain ⟨ad263, A263_2, c263_2, e263, hx263_0, hx263_1, hx263_2, hl263_2, hi263_2⟩ := at_T52 (Kd.N_reads' HO_8.out).2.2 x9_7 p263 q263
               obtain rfl : ad255 = ad263 := (by injection e263)
               obtain ⟨ce263, hce263, hMe263, hcc263⟩ := Kd.N_get HO_8.out z52 x9_7 p263 (by first | exact q263 | exact of_decide_eq_true (by first | (with_reducible assumption) | assumption) | (have e_ := (Kd.N_reads' HO_8.out).1; omega))
               obtain ⟨ua263_2, uc263_2, rfl, ul263_2, ge263_2⟩ := sw_k52_openF hMe263
               have hv263_2 := hcc263 2 _ rfl
               rw [add_field _ _ 2 (by omega)] at hv263_2
               replace hv263_2 := Option.some.inj (hv263_2.symm.trans hx263_2)
               injection hv263_2 with hva_ hvn_ hvc_
               rw [hva_] at ge263_2
               rw [hvc_] at ul263_2
               have HL263_2 := Aside0.mk (show Kd.V k56 56 _ w.heap.size _ _ ((rd_T52 x8_7 x9_7).f2) from Kd.V_mk ul263_2 ge263_2)
               clear hva_ hvn_ hvc_ ge263_2 ul263_2
               clear hcc263 hce263
               have HR263_2 := Aside0.mk hi263_2
               have HC263_2 := Aside0.mk hl263_2
               clear hi263_2 hl263_2
               replace p263 := eq_true p263
               replace q263 := eq_true q263
               have ea_ := Option.some.inj (hx262_2.symm.trans hx263_2)
               injection ea_ with ea_ en_ ec_
               subst ea_
               subst ec_
               clear en_
               try (have eb_ := Option.some.inj (hx262_2.symm.trans ((HB.out.cell (World.block_lt_of_cell? w _ hw255_2)).trans hw255_2)); injection eb_ with ea_ en_ ec_; subst ea_; subst ec_; clear en_)
               have p264 : 0 ≤ ((ji68) : Int) := of_decide_eq_true (by first | (with_reducible assumption) | assumption)
               have q264 : (ji68) < (((rd_T52 x8_7 x9_7).f2).length : Int) := of_decide_eq_true (by first | (with_reducible assumption) | assumption)
               obtain ⟨ad264, e264, hx264_0, hx264_1⟩ := at_T56 (by repeat (first | (with_reducible exact HR255_2.out) | (with_reducible refine Kd.C_alloc ?_ _) | (with_reducible refine Kd.C_drewN ?_ _) | (with_reducible refine Kd.C_drew ?_) | exact HR255_2.out)) (ji68) p264 q264
               cases e264
               replace p264 := eq_true p264
               replace q264 := eq_true q264
               go_wp2
               go_meet
               case rel => exact ⟨_, (wrap64 (((rd_T56 ((rd_T52 x8_7 x9_7).f2) (ji68)).f0) + 1)), (by first | rfl | (simp; done) | (simp only [← hji68] <;> (first | rfl | simp)) | (simp [*]; done)), H', ⟨by have := HJ7.out; have := HJ55.out; first | omega | exact Nat.le_refl _⟩, ⟨by (with_reducible repeat (first | apply Kd.N_alloc | apply Kd.N_drewN | apply Kd.N_drew)); exact HO_8.out⟩, ⟨by repeat (first | (with_reducible exact HR255_2.out) | (with_reducible refine Kd.C_alloc ?_ _) | (with_reducible refine Kd.C_drewN ?_ _) | (with_reducible refine Kd.C_drew ?_) | exact HR255_2.out)⟩, ⟨by repeat (first | (with_reducible exact HR261_2.out) | (with_reducible refine Kd.C_alloc ?_ _) | (with_reducible refine Kd.C_drewN ?_ _) | (with_reducible refine Kd.C_drew ?_) | exact HR261_2.out)⟩, ⟨by (with_reducible repeat (first | refine blk_drewN ?_ _ | refine blk_drew ?_ | refine blk_alloc ?_ _)); exact BKb.out⟩, ⟨by repeat (first | (with_reducible first | exact HB.out | apply below_alloc | apply pw_below_drewN | apply below_drew1) | exact HB.out)⟩⟩
              ·rw [if_neg c70] at H
               exact absurd H (by simp)
             ·rw [if_neg c69] at H
              exact absurd H (by simp)
            ·rw [if_neg c67] at H
             have c67b0 : decide (0 < (((rd_T52 x8_7 x9_7).f2).length : Int)) = false := decide_eq_false c67
             have c67b1 : decide (0 < ((rd_T52 x8_7 x9_7).f2).length) = false := decide_eq_false (by omega)
             clear c67
             (first | rw [c67b1] | rw [c67b0] | skip)
             have H' := Aside0.mk H
             clear H
             go_wp2
             go_meet
             case rel => exact ⟨_, (1), (by first | rfl | (simp; done) | (simp [*]; done)), H', ⟨by have := HJ7.out; have := HJ55.out; first | omega | exact Nat.le_refl _⟩, ⟨by (with_reducible repeat (first | apply Kd.N_alloc | apply Kd.N_drewN | apply Kd.N_drew)); exact HO_8.out⟩, ⟨by repeat (first | (with_reducible exact HR255_2.out) | (with_reducible refine Kd.C_alloc ?_ _) | (with_reducible refine Kd.C_drewN ?_ _) | (with_reducible refine Kd.C_drew ?_) | exact HR255_2.out)⟩, ⟨by repeat (first | (with_reducible exact HR261_2.out) | (with_reducible refine Kd.C_alloc ?_ _) | (with_reducible refine Kd.C_drewN ?_ _) | (with_reducible refine Kd.C_drew ?_) | exact HR261_2.out)⟩, ⟨by (with_reducible repeat (first | refine blk_drewN ?_ _ | refine blk_drew ?_ | refine blk_alloc ?_ _)); exact BKb.out⟩, ⟨by repeat (first | (with_reducible first | exact HB.out | apply below_alloc | apply pw_below_drewN | apply below_drew1) | exact HB.out)⟩⟩
           case rest =>
            clear HC66
            try clear c1
            try clear c2
            try clear p2
            try clear q2
            try clear hx2
            try clear c3
            try clear c4
            try clear q4
            try clear c5
            try clear c6
            try clear p6
            try clear c7
            try clear c12
            try clear c12b0
            try clear c13
            try clear c13b0
            try clear c14
            try clear c17
            try clear c18
            try clear c19
            try clear c22
            try clear c25
            try clear p25
            try clear q25
            try clear hx25
            try clear c26
            try clear p26
            try clear q26
            try clear hx26
            try clear c35
            try clear c35b0
            try clear c35b1
            try clear c36
            try clear c36b0
            try clear c36b1
            try clear c37
            try clear c38
            try clear c39
            try clear c39b0
            try clear c40
            try clear c40b0
            try clear c41
            try clear q43
            try clear c44
            try clear q44
            try clear c54
            try clear c54b0
            try clear c55
            try clear c55b0
            try clear c58
            try clear c58b0
            try clear c58b1
            try clear c61
            try clear c64
            try clear c64b0
            try clear p64
            try clear c65
            try clear c65b0
            try clear c67
            try clear c67b0
            try clear c67b1
            try clear c69
            try clear c69b0
            try clear c70
            try clear c70b0
            try clear hx255_0
            try clear hx255_1
            try clear hx255_2
            try clear hx256_0
            try clear hx256_1
            try clear hx256_2
            try clear hx261_0
            try clear hx261_1
            try clear hx261_2
            try clear hx262_0
            try clear hx262_1
            try clear hx262_2
            try clear hx263_0
            try clear hx263_1
            try clear hx263_2
            try clear hx264_0
            try clear hx264_1
            try clear p2
            try clear p25
            try clear p255
            try clear p256
            try clear p261
            try clear p262
            try clear p263
            try clear p264
            try clear q044
            try clear q2
            try clear q25
            try clear q255
            try clear q256
            try clear q261
            try clear q262
            try clear q263
            try clear q264
            try clear q4
            try clear q43
            try clear q44
            obtain ⟨kq, x12_65, rfl, HA, HJ65, HO_8, HR255_2, HR261_2, BKb, HB⟩ := hcut
            have hbx_0 : World.cell? _ ⟨gbx, 0, none⟩ = some _ := (blk_cell BKb.out 0).trans rfl
            have hbx_1 : World.cell? _ ⟨gbx, 1, none⟩ = some _ := (blk_cell BKb.out 1).trans rfl
            have hbx_2 : World.cell? _ ⟨gbx, 2, none⟩ = some _ := (blk_cell BKb.out 2).trans rfl
            cases kq with
            | zero => exact absurd HA.out (by simp [spec_Switch.j3])
            | succ kj65 =>
             have H := HA.out
             clear HA
             simp only [spec_Switch.j3] at H
             obtain ⟨y265, hy265⟩ : ∃ y_ : List (S56), y_ = (([] : List (S56))) := ⟨_, rfl⟩
             replace H : (if 0 ≤ x9_7 then (if x9_7 < (x8_7.length : Int) then (if y265.length + ((rd_T52 x8_7 x9_7).f2).length < 5864062014805 then ((some (y265 ++ ((rd_T52 x8_7 x9_7).f2) : List (S56))).bind fun y269 => ((some (([(⟨x12_65, a2⟩ : S56)] : List (S56)) : List (S56))).bind fun y272 => (if y269.length + y272.length < 5864062014805 then ((some (x8_7.set (x9_7 : Int).toNat (⟨(rd_T52 x8_7 x9_7).f0, (rd_T52 x8_7 x9_7).f1, (y269 ++ y272)⟩ : S52) : List (S52))).bind fun y278 => ((some (y278.set (x9_7 : Int).toNat (⟨(rd_T52 y278 x9_7).f0, x12_65, (rd_T52 y278 x9_7).f2⟩ : S52) : List (S52))).bind fun y279 => ((spec_ProfilesOk.f kj65 y279).bind fun t280 => (if t280 = true then (some (y279, true)) else ((spec_l13Copy.f kj65 l0).bind fun t281 => (some (t281, false))))))) else (none)))) else (none)) else (none)) else (none)) = some (r1, r2) := by first | (rw [hy265]; with_reducible exact H) | (have H2_ := (Option.bind_some _ _).symm.trans H; rw [hy265]; with_reducible exact H2_) | (have H2_ := (Option.bind_some _ _).symm.trans H; with_reducible exact H2_) | with_reducible exact H | (rw [hy265]; exact H) | exact H
             have Ny265 := Aside0.mk hy265
             clear hy265
             by_cases c71 : 0 ≤ x9_7
             ·rw [if_pos c71] at H
              have c71b0 : decide (0 ≤ x9_7) = true := decide_eq_true c71
              clear c71
              by_cases c72 : x9_7 < (x8_7.length : Int)
              ·rw [if_pos c72] at H
               have c72b0 : decide (x9_7 < (x8_7.length : Int)) = true := decide_eq_true c72
               clear c72
               by_cases c73 : y265.length + ((rd_T52 x8_7 x9_7).f2).length < 5864062014805
               ·rw [if_pos c73] at H
                have LMc73 := Aside0.mk c73
                clear c73
                obtain ⟨y269, hy269⟩ : ∃ y_ : List (S56), y_ = (y265 ++ ((rd_T52 x8_7 x9_7).f2)) := ⟨_, rfl⟩
                replace H : ((some (([(⟨x12_65, a2⟩ : S56)] : List (S56)) : List (S56))).bind fun y272 => (if y269.length + y272.length < 5864062014805 then ((some (x8_7.set (x9_7 : Int).toNat (⟨(rd_T52 x8_7 x9_7).f0, (rd_T52 x8_7 x9_7).f1, (y269 ++ y272)⟩ : S52) : List (S52))).bind fun y278 => ((some (y278.set (x9_7 : Int).toNat (⟨(rd_T52 y278 x9_7).f0, x12_65, (rd_T52 y278 x9_7).f2⟩ : S52) : List (S52))).bind fun y279 => ((spec_ProfilesOk.f kj65 y279).bind fun t280 => (if t280 = true then (some (y279, true)) else ((spec_l13Copy.f kj65 l0).bind fun t281 => (some (t281, false))))))) else (none))) = some (r1, r2) := by first | (rw [hy269]; with_reducible exact H) | (have H2_ := (Option.bind_some _ _).symm.trans H; rw [hy269]; with_reducible exact H2_) | (have H2_ := (Option.bind_some _ _).symm.trans H; with_reducible exact H2_) | with_reducible exact H | (rw [hy269]; exact H) | exact H
                have Ny269 := Aside0.mk hy269
                clear hy269
                obtain ⟨y272, hy272⟩ : ∃ y_ : List (S56), y_ = (([(⟨x12_65, a2⟩ : S56)] : List (S56))) := ⟨_, rfl⟩
                replace H : (if y269.length + y272.length < 5864062014805 then ((some (x8_7.set (x9_7 : Int).toNat (⟨(rd_T52 x8_7 x9_7).f0, (rd_T52 x8_7 x9_7).f1, (y269 ++ y272)⟩ : S52) : List (S52))).bind fun y278 => ((some (y278.set (x9_7 : Int).toNat (⟨(rd_T52 y278 x9_7).f0, x12_65, (rd_T52 y278 x9_7).f2⟩ : S52) : List (S52))).bind fun y279 => ((spec_ProfilesOk.f kj65 y279).bind fun t280 => (if t280 = true then (some (y279, true)) else ((spec_l13Copy.f kj65 l0).bind fun t281 => (some (t281, false))))))) else (none)) = some (r1, r2) := by first | (rw [hy272]; with_reducible exact H) | (have H2_ := (Option.bind_some _ _).symm.trans H; rw [hy272]; with_reducible exact H2_) | (have H2_ := (Option.bind_some _ _).symm.trans H; with_reducible exact H2_) | with_reducible exact H | (rw [hy272]; exact H) | exact H
                have Ny272 := Aside0.mk hy272
                clear hy272
                by_cases c74 : y269.length + y272.length < 5864062014805
                ·rw [if_pos c74] at H
                 have LMc74 := Aside0.mk c74
                 clear c74
                 obtain ⟨y275, hy275⟩ : ∃ y_ : List (S56), y_ = (y269 ++ y272) := ⟨_, rfl⟩
                 replace H : ((some (x8_7.set (x9_7 : Int).toNat (⟨(rd_T52 x8_7 x9_7).f0, (rd_T52 x8_7 x9_7).f1, y275⟩ : S52) : List (S52))).bind fun y278 => ((some (y278.set (x9_7 : Int).toNat (⟨(rd_T52 y278 x9_7).f0, x12_65, (rd_T52 y278 x9_7).f2⟩ : S52) : List (S52))).bind fun y279 => ((spec_ProfilesOk.f kj65 y279).bind fun t280 => (if t280 = true then (some (y279, true)) else ((spec_l13Copy.f kj65 l0).bind fun t281 => (some (t281, false))))))) = some (r1, r2) := by first | (rw [hy275]; with_reducible exact H) | (have H2_ := (Option.bind_some _ _).symm.trans H; rw [hy275]; with_reducible exact H2_) | (have H2_ := (Option.bind_some _ _).symm.trans H; with_reducible exact H2_) | with_reducible exact H | (rw [hy275]; exact H) | exact H
                 have Ny275 := Aside0.mk hy275
                 clear hy275
                 obtain ⟨y278, hy278⟩ : ∃ y_ : List (S52), y_ = (x8_7.set (x9_7 : Int).toNat (⟨(rd_T52 x8_7 x9_7).f0, (rd_T52 x8_7 x9_7).f1, y275⟩ : S52)) := ⟨_, rfl⟩
                 replace H : ((some (y278.set (x9_7 : Int).toNat (⟨(rd_T52 y278 x9_7).f0, x12_65, (rd_T52 y278 x9_7).f2⟩ : S52) : List (S52))).bind fun y279 => ((spec_ProfilesOk.f kj65 y279).bind fun t280 => (if t280 = true then (some (y279, true)) else ((spec_l13Copy.f kj65 l0).bind fun t281 => (some (t281, false)))))) = some (r1, r2) := by first | (rw [hy278]; with_reducible exact H) | (have H2_ := (Option.bind_some _ _).symm.trans H; rw [hy278]; with_reducible exact H2_) | (have H2_ := (Option.bind_some _ _).symm.trans H; with_reducible exact H2_) | with_reducible exact H | (rw [hy278]; exact H) | exact H
                 have Ny278 := Aside0.mk hy278
                 clear hy278
                 obtain ⟨y279, hy279⟩ : ∃ y_ : List (S52), y_ = (y278.set (x9_7 : Int).toNat (⟨(rd_T52 y278 x9_7).f0, x12_65, (rd_T52 y278 x9_7).f2⟩ : S52)) := ⟨_, rfl⟩
                 replace H : ((spec_ProfilesOk.f kj65 y279).bind fun t280 => (if t280 = true then (some (y279, true)) else ((spec_l13Copy.f kj65 l0).bind fun t281 => (some (t281, false))))) = some (r1, r2) := by first | (rw [hy279]; with_reducible exact H) | (have H2_ := (Option.bind_some _ _).symm.trans H; rw [hy279]; with_reducible exact H2_) | (have H2_ := (Option.bind_some _ _).symm.trans H; with_reducible exact H2_) | with_reducible exact H | (rw [hy279]; exact H) | exact H
                 have Ny279 := Aside0.mk hy279
                 clear hy279
                 replace H := Option.bind_eq_some_iff.mp H
                 obtain ⟨t280, A770, H⟩ := H
                 replace H : (if t280 = true then (some (y279, true)) else ((spec_l13Copy.f kj65 l0).bind fun t281 => (some (t281, false)))) = some (r1, r2) := H
                 have A77 := Aside0.mk A770
                 clear A770
                 by_cases c78 : t280 = true
                 ·subst c78
                  have H1 : (some (y279, true)) = some (r1, r2) := by rw [if_pos rfl] at H; exact H
                  clear H
                  have H := H1
                  clear H1
                  simp only [Option.some.injEq, Prod.mk.injEq] at H
                  obtain ⟨rfl, rfl⟩ := H
                  go_wp2_with (first | ((with_reducible refine gate_dst (N := 83) rfl ?_); refine Kd.R_lit k56 _ 56 ?hg (N := 83) ?hd (xs := ([] : List (S56))) (inner := []) (ok := fun _ => True) (okp := fun _ => True) ?hr ?hp (fun _ hk => hk) trivial (Below.refl _ _) (Nat.le_refl _) (by simp) ?_; (case hd => rfl); (case hg => rfl); (case hr => first | (go_simp; done) | (go_simp; rfl) | (obtain ⟨_, _, e_⟩ := Kd.R_slice HO277.out; subst e_; first | (go_simp; done) | (go_simp; rfl))); (case hp => exact (Reps.none _ _)); intro v266 w79 ho80 hb hg_ hnew_; clear hg_ hnew_; have nb_ := Aside0.mk (blk_below BKb.out hb); clear BKb hbx_0 hbx_1 hbx_2; have BKb := nb_; clear nb_; have hbx_0 : World.cell? w79 ⟨gbx, 0, none⟩ = some _ := (blk_cell BKb.out 0).trans rfl; have hbx_1 : World.cell? w79 ⟨gbx, 1, none⟩ = some _ := (blk_cell BKb.out 1).trans rfl; have hbx_2 : World.cell? w79 ⟨gbx, 2, none⟩ = some _ := (blk_cell BKb.out 2).trans rfl; (first | rw [← Ny265.out] at ho80 | (simp only [Int.reduceToNat] at ho80; rw [← Ny265.out] at ho80)); have n0_ := Aside0.mk (Kd.N_elder' (by (with_reducible repeat (first | apply Kd.N_alloc | apply Kd.N_drewN | apply Kd.N_drew)); exact HO_8.out) (Kd.R_base ho80) hb); have n1_ := Aside0.mk (Kd.R_lower (Kd.R_newM (M := fun k_ => (w.heap.size ≤ k_)) ho80 (below_size qB) (fun k_ h_ => h_)) (below_size qB)); have n2_ := Aside0.mk (Kd.C_below (by repeat (first | (with_reducible exact HR255_2.out) | (with_reducible refine Kd.C_alloc ?_ _) | (with_reducible refine Kd.C_drewN ?_ _) | (with_reducible refine Kd.C_drew ?_) | exact HR255_2.out)) hb); have n3_ := Aside0.mk (Kd.C_below (by repeat (first | (with_reducible exact HR261_2.out) | (with_reducible refine Kd.C_alloc ?_ _) | (with_reducible refine Kd.C_drewN ?_ _) | (with_reducible refine Kd.C_drew ?_) | exact HR261_2.out)) hb); have n4_ := Aside0.mk (below_step qB hb); clear HO_8; clear HR255_2; clear HR261_2; clear HB; have HO_8 := n0_; have HO267 := n1_; have HR255_2 := n2_; have HR261_2 := n3_; have HB := n4_; clear n0_ n1_ n2_ n3_ n4_; clear hb ho80; have p268 : 0 ≤ (x9_7 : Int) := of_decide_eq_true (by first | (with_reducible assumption) | assumption); have q268 : x9_7 < (x8_7.length : Int) := of_decide_eq_true (by first | (with_reducible assumption) | assumption); obtain ⟨ad268, A268_2, c268_2, e268, hx268_0, hx268_1, hx268_2, hl268_2, hi268_2⟩ := at_T52 (Kd.N_reads' HO_8.out).2.2 x9_7 p268 q268; obtain rfl : ad255 = ad268 := (by injection e268); obtain ⟨ce268, hce268, hMe268, hcc268⟩ := Kd.N_get HO_8.out z52 x9_7 p268 (by first | exact q268 | exact of_decide_eq_true (by first | (with_reducible assumption) | assumption) | (have e_ := (Kd.N_reads' HO_8.out).1; omega)); obtain ⟨ua268_2, uc268_2, rfl, ul268_2, ge268_2⟩ := sw_k52_openF hMe268; have hv268_2 := hcc268 2 _ rfl; rw [add_field _ _ 2 (by omega)] at hv268_2; replace hv268_2 := Option.some.inj (hv268_2.symm.trans hx268_2); injection hv268_2 with hva_ hvn_ hvc_; rw [hva_] at ge268_2; rw [hvc_] at ul268_2; have HL268_2 := Aside0.mk (show Kd.V k56 56 _ w.heap.size _ _ ((rd_T52 x8_7 x9_7).f2) from Kd.V_mk ul268_2 ge268_2); clear hva_ hvn_ hvc_ ge268_2 ul268_2; clear hcc268 hce268; have HR268_2 := Aside0.mk hi268_2; have HC268_2 := Aside0.mk hl268_2; clear hi268_2 hl268_2; replace p268 := eq_true p268; replace q268 := eq_true q268) | ((with_reducible refine gate_builtin (b := .append) (xs := #[.tmp 83, .tmp 85]) rfl ?_); at_builtin; refine Kd.R_append_rows k56 (w0 := w) w.heap.size rfl (.tmp 83) (.tmp 85) 50 56 (.agg #[(.int .i64 0), (.string ⟨#[]⟩)]) 24 rfl Try.underlying50 info56 rfl (by decide) (by omega) v266 y265 ((rd_T52 x8_7 x9_7).f2) _ _ _ (fun k_ => (w.heap.size ≤ k_)) (fun _ => False) rfl rfl ?aO ?aR (fun _ _ h => h) (fun _ h => h.elim) ?aF ?aB ?aS ?aL ?_; (case aR => repeat (first | exact (by repeat (first | (with_reducible exact HR255_2.out) | (with_reducible refine Kd.C_alloc ?_ _) | (with_reducible refine Kd.C_drewN ?_ _) | (with_reducible refine Kd.C_drew ?_) | exact HR255_2.out)) | (with_reducible refine Kd.C_alloc ?_ _) | (with_reducible refine Kd.C_drewN ?_ _) | (with_reducible refine Kd.C_drew ?_))); (case aB => exact qB); (case aF => exact (fun k_ hk => (Nat.le_trans (below_size qB) hk))); (case aO => exact (by (with_reducible repeat (first | apply Kd.R_alloc | apply Kd.R_drewN | apply Kd.R_drew)); exact Kd.R_mono HO267.out (fun _ hk => hk.1))); (case aS => exact (below_size qB)); (case aL => have := LMc73.out; omega); intro v270 w81 ho hb hg hat; rw [← Ny269.out] at ho; have n0_ := Aside0.mk (Kd.N_afterv (ok := (fun k_ => (w.heap.size ≤ k_))) (by (with_reducible repeat (first | apply Kd.N_alloc | apply Kd.N_drewN | apply Kd.N_drew)); exact HO_8.out) hg hat); have n1_ := Aside0.mk (Kd.V_afterv (ok := (fun k_ => (w.heap.size ≤ k_) ∧ some k_ ≠ (.slice (some ad255) x8_7.length co57 : Value).ownBlock)) (by (with_reducible repeat (first | apply Kd.V_alloc | apply Kd.V_drewN | apply Kd.V_drew)); exact Kd.V_mono HL268_2.out (fun _ hk => ⟨⟨hk.1.1, hk.2⟩, hk.1.2⟩)) hg hat); have n2_ := Aside0.mk (hb); have n3_ := Aside0.mk (ho); clear HO_8; clear HL268_2; clear HB; clear HO267; have HO_8 := n0_; have HL268_2 := n1_; have HB := n2_; have HO271 := n3_; clear n0_ n1_ n2_ n3_; clear ho hb hg hat) | ((with_reducible refine gate_dst (N := 90) rfl ?_); refine Kd.R_lit k56 _ 56 ?hg (N := 90) ?hd (xs := ([(⟨x12_65, a2⟩ : S56)] : List (S56))) (inner := [.int .i64 x12_65, .string a2]) (ok := fun _ => True) (okp := fun _ => True) ?hr ?hp (fun _ hk => hk) trivial (Below.refl _ _) (Nat.le_refl _) (by simp) ?_; (case hd => rfl); (case hg => rfl); (case hr => first | (go_simp; done) | (go_simp; rfl) | (obtain ⟨_, _, e_⟩ := Kd.R_slice HO277.out; subst e_; first | (go_simp; done) | (go_simp; rfl))); (case hp => exact (Reps.c2 (show Kd.M k56 _ _ _ (⟨x12_65, a2⟩ : S56) [.int .i64 x12_65, .string a2] from (k56_mkM _ _ _ (⟨x12_65, a2⟩ : S56) )) (Reps.none _ _))); intro v273 w82 ho83 hb hg_ hnew_; clear hg_ hnew_; (first | rw [← Ny272.out] at ho83 | (simp only [Int.reduceToNat] at ho83; rw [← Ny272.out] at ho83)); have n0_ := Aside0.mk (Kd.N_elder' (by (with_reducible repeat (first | apply Kd.N_alloc | apply Kd.N_drewN | apply Kd.N_drew)); exact HO_8.out) (Kd.R_base ho83) hb); have n1_ := Aside0.mk (Kd.V_elder' (by (with_reducible repeat (first | apply Kd.V_alloc | apply Kd.V_drewN | apply Kd.V_drew)); exact HL268_2.out) (Kd.R_base ho83) hb); have n2_ := Aside0.mk (Kd.R_elder' (by (with_reducible repeat (first | apply Kd.R_alloc | apply Kd.R_drewN | apply Kd.R_drew)); exact HO271.out) (Kd.R_base ho83) hb); have n3_ := Aside0.mk (Kd.R_lower (Kd.R_new' (Kd.R_newM (M := fun k_ => (w.heap.size ≤ k_)) ho83 (below_size qB) (fun k_ h_ => h_)) (Kd.R_lt (by (with_reducible repeat (first | apply Kd.R_alloc | apply Kd.R_drewN | apply Kd.R_drew)); exact HO271.out))) (below_size qB)); have n4_ := Aside0.mk (below_step qB hb); clear HO_8; clear HL268_2; clear HO271; clear HB; have HO_8 := n0_; have HL268_2 := n1_; have HO271 := n2_; have HO274 := n3_; have HB := n4_; clear n0_ n1_ n2_ n3_ n4_; clear hb ho83; obtain ⟨Ao85, co85, eo85⟩ := Kd.R_slice HO274.out; subst eo85) | ((with_reducible refine gate_builtin (b := .append) (xs := #[.tmp 86, .tmp 90]) rfl ?_); at_builtin; refine Kd.R_append_rows k56 (w0 := w) w.heap.size rfl (.tmp 86) (.tmp 90) 50 56 (.agg #[(.int .i64 0), (.string ⟨#[]⟩)]) 24 rfl Try.underlying50 info56 rfl (by decide) (by omega) v270 y269 y272 _ _ _ (fun k_ => (w.heap.size ≤ k_) ∧ some k_ ≠ (.slice Ao85 y272.length co85 : Value).ownBlock) (fun _ => False) rfl rfl ?aO ?aR (fun _ _ h => h) (fun _ h => h.elim) ?aF ?aB ?aS ?aL ?_; (case aR => repeat (first | exact (Kd.R_reads' HO274.out).2.2 | (with_reducible refine Kd.C_alloc ?_ _) | (with_reducible refine Kd.C_drewN ?_ _) | (with_reducible refine Kd.C_drew ?_))); (case aB => exact qB); (case aF => exact (fun k_ hk => ⟨(Nat.le_trans (below_size qB) hk), Kd.fresh' (Kd.R_lt (by (with_reducible repeat (first | apply Kd.R_alloc | apply Kd.R_drewN | apply Kd.R_drew)); exact HO274.out)) k_ hk⟩)); (case aO => exact (by (with_reducible repeat (first | apply Kd.R_alloc | apply Kd.R_drewN | apply Kd.R_drew)); exact HO271.out)); (case aS => exact (below_size qB)); (case aL => have := LMc74.out; omega); intro v276 w84 ho hb hg hat; rw [← Ny275.out] at ho; have n0_ := Aside0.mk (Kd.N_afterv (ok := (fun k_ => (w.heap.size ≤ k_) ∧ some k_ ≠ (.slice Ao85 y272.length co85 : Value).ownBlock)) (by (with_reducible repeat (first | apply Kd.N_alloc | apply Kd.N_drewN | apply Kd.N_drew)); exact Kd.N_mono HO_8.out (fun _ hk => ⟨⟨hk.1.1, hk.2⟩, hk.1.2⟩)) hg hat); have n1_ := Aside0.mk (Kd.V_afterv (ok := (fun k_ => (w.heap.size ≤ k_) ∧ some k_ ≠ (.slice (some ad255) x8_7.length co57 : Value).ownBlock ∧ some k_ ≠ (.slice Ao85 y272.length co85 : Value).ownBlock)) (by (with_reducible repeat (first | apply Kd.V_alloc | apply Kd.V_drewN | apply Kd.V_drew)); exact Kd.V_mono HL268_2.out (fun _ hk => ⟨⟨hk.1.1.1, ⟨hk.1.1.2, hk.2⟩⟩, hk.1.2⟩)) hg hat); have n2_ := Aside0.mk (Kd.R_after (ok := (fun k_ => (w.heap.size ≤ k_))) (by (with_reducible repeat (first | apply Kd.R_alloc | apply Kd.R_drewN | apply Kd.R_drew)); exact Kd.R_mono HO274.out (fun _ hk => ⟨hk.1.1, hk.2⟩)) hg hat); have n3_ := Aside0.mk (hb); have n4_ := Aside0.mk (ho); clear HO_8; clear HL268_2; clear HO274; clear HB; clear HO271; have HO_8 := n0_; have HL268_2 := n1_; have HO274 := n2_; have HB := n3_; have HO277 := n4_; clear n0_ n1_ n2_ n3_ n4_; clear ho hb hg hat; obtain ⟨AoN_, coN_, eoN_⟩ := Kd.R_slice HO277.out; subst eoN_; have p75 : 0 ≤ (x9_7 : Int) := of_decide_eq_true (by first | (with_reducible assumption) | assumption); have q75 : (x9_7 : Int) < ((x8_7.length : Int) : Int) := of_decide_eq_true (by first | (with_reducible assumption) | assumption); obtain ⟨go75, co75, eo75, gb75, gl75, cl75, HG75⟩ := Kd.N_form HO_8.out (by omega); (first | cases eo75 | (injection eo75 with ea_ en_ ec_; (first | subst ea_ | (injection ea_ with ea_; subst ea_)); subst ec_; clear en_)); have GB75 := Aside0.mk gb75; have GG75 := Aside0.mk HG75; clear gb75 gl75 HG75; (first | simp only [add_plain] at hx255_0 | skip); (first | simp only [add_plain] at hx255_1 | skip); (first | simp only [add_plain] at hx255_2 | skip); (first | simp only [add_plain] at hx256_0 | skip); (first | simp only [add_plain] at hx256_1 | skip); (first | simp only [add_plain] at hx256_2 | skip); (first | simp only [add_plain] at hx261_0 | skip); (first | simp only [add_plain] at hx261_1 | skip); (first | simp only [add_plain] at hx261_2 | skip); (first | simp only [add_plain] at hx262_0 | skip); (first | simp only [add_plain] at hx262_1 | skip); (first | simp only [add_plain] at hx262_2 | skip); (first | simp only [add_plain] at hx263_0 | skip); (first | simp only [add_plain] at hx263_1 | skip); (first | simp only [add_plain] at hx263_2 | skip); (first | simp only [add_plain] at hx268_0 | skip); (first | simp only [add_plain] at hx268_1 | skip); (first | simp only [add_plain] at hx268_2 | skip); obtain ⟨ce75, hcl75, hM75, hcc75, hfr75⟩ := Kd.N_elem HO_8.out z52 (x9_7 : Int) p75 q75; obtain ⟨ua75_2, uc75_2, rfl, ul75_2, ge75_2⟩ := sw_k52_openF hM75; have hx75_0 : w84.cell? ⟨go75, (x9_7 : Int).toNat * 3, none⟩ = some (.string ((rd_T52 x8_7 x9_7).f0)) := hcc75 0 _ rfl; have hx75_1 : w84.cell? ⟨go75, (x9_7 : Int).toNat * 3 + 1, none⟩ = some (.int .i64 ((rd_T52 x8_7 x9_7).f1)) := hcc75 1 _ rfl; have hx75_2 : w84.cell? ⟨go75, (x9_7 : Int).toNat * 3 + 2, none⟩ = some (.slice ua75_2 ((rd_T52 x8_7 x9_7).f2).length uc75_2) := hcc75 2 _ rfl; have hf75_0 : w84.frozen? ⟨go75, (x9_7 : Int).toNat * 3, none⟩ = false := hfr75 0; have hf75_1 : w84.frozen? ⟨go75, (x9_7 : Int).toNat * 3 + 1, none⟩ = false := hfr75 1; have hf75_2 : w84.frozen? ⟨go75, (x9_7 : Int).toNat * 3 + 2, none⟩ = false := hfr75 2; clear hcl75 hcc75 hfr75 hM75; replace p75 := eq_true p75; replace q75 := eq_true q75; have n_ := Aside0.mk (Kd.N_mono (ok' := (fun k_ => (w.heap.size ≤ k_) ∧ some k_ ≠ (.slice Ao85 y272.length co85 : Value).ownBlock ∧ some k_ ≠ ((.slice AoN_ y275.length coN_ : Value) : Value).ownBlock)) HO_8.out (fun k_ hk => ⟨hk.1.1, ⟨hk.1.2, hk.2⟩⟩)); clear HO_8; have HO_8 := n_; clear n_; have HX86 := Aside0.mk (show Kd.N k52 52 w84 w.heap.size (fun k_ => (w.heap.size ≤ k_) ∧ some k_ ≠ (.slice Ao85 y272.length co85 : Value).ownBlock) (.slice (some ⟨go75, 0, none⟩) x8_7.length co57) x8_7 from (by (with_reducible repeat (first | apply Kd.N_alloc | apply Kd.N_drewN | apply Kd.N_drew)); exact Kd.N_mono HO_8.out (fun _ hk => ⟨hk.1, hk.2.1⟩))); obtain ⟨ce86, hcl86, hM86, hcc86, hfr86⟩ := Kd.N_elem HX86.out z52 (x9_7 : Int) (of_decide_eq_true (by first | (with_reducible assumption) | assumption)) (by have h_ : (x9_7 : Int) < ((x8_7.length : Int) : Int) := of_decide_eq_true (by first | (with_reducible assumption) | assumption); first | exact h_ | (have e_ := (Kd.N_reads' HO_8.out).1; omega) | simpa using h_); obtain ⟨ua86_2, uc86_2, rfl, ul86_2, ge86_2⟩ := sw_k52_openF hM86; have HP86 := Kd.N_seg HX86.out (x9_7 : Int) (of_decide_eq_true (by first | (with_reducible assumption) | assumption)) (by have h_ : (x9_7 : Int) < ((x8_7.length : Int) : Int) := of_decide_eq_true (by first | (with_reducible assumption) | assumption); first | exact h_ | (have e_ := (Kd.N_reads' HO_8.out).1; omega) | simpa using h_) (seg := [(.slice AoN_ y275.length coN_ : Value)]) (j := 2) hcl86 hcc86 (show 3 ≤ 3 from by decide) (x' := (⟨(rd_T52 x8_7 x9_7).f0, (rd_T52 x8_7 x9_7).f1, y275⟩ : S52)) (sw_k52_mkF _ _ (⟨(rd_T52 x8_7 x9_7).f0, (rd_T52 x8_7 x9_7).f1, y275⟩ : S52) (Kd.R_reads' (Kd.R_mono (ok' := (fun k_ => ((fun k_ => (w.heap.size ≤ k_) ∧ some k_ ≠ (.slice Ao85 y272.length co85 : Value).ownBlock)) k_ ∧ k_ ≠ go75)) (Kd.R_apart' (HO277.out) (Kd.N_typed HO_8.out) (by decide)) (fun k_ hk => ⟨⟨hk.1.1, hk.1.2⟩, fun e_ => (hk.2) (by rw [e_]; rfl)⟩))).2.1 (Kd.R_F (Kd.R_mono (ok' := (fun k_ => ((fun k_ => (w.heap.size ≤ k_) ∧ some k_ ≠ (.slice Ao85 y272.length co85 : Value).ownBlock)) k_ ∧ k_ ≠ go75)) (Kd.R_apart' (HO277.out) (Kd.N_typed HO_8.out) (by decide)) (fun k_ hk => ⟨⟨hk.1.1, hk.1.2⟩, fun e_ => (hk.2) (by rw [e_]; rfl)⟩)))) (fun _ hk => hk); have hx86_2 := hcc86 2 _ rfl; (try simp only [show (k52).sz = 3 from rfl, Nat.mul_one, Nat.add_zero] at hx86_2); have hf86_2 := hfr86 2; (try simp only [show (k52).sz = 3 from rfl, Nat.mul_one, Nat.add_zero] at hf86_2); clear hcl86 hcc86 hfr86 hM86) | ((with_reducible refine gate_store (t := 50) (p := 93) rfl ?_); refine store_event (t := 50) (p := 93) (v := ?vo_w87) (w1 := (w84.setCell ⟨go75, (x9_7 : Int).toNat * 3 + 2, none⟩ ((.slice AoN_ y275.length coN_ : Value)))) ?hg ?ho ?hn ?hr ?_; (case ho => rfl); (case hg => rfl); (case hn => rfl); (case hr => first | (go_simp; done) | (go_simp; rfl) | (obtain ⟨_, _, e_⟩ := Kd.R_slice HO277.out; subst e_; first | (go_simp; done) | (go_simp; rfl))); intro w87 hw; have hg : w84.grownBy w87 (some go75) := (by rw [hw]; exact HP86.2); have hp_ : Kd.N k52 52 w87 w.heap.size (fun k_ => (w.heap.size ≤ k_) ∧ some k_ ≠ (.slice Ao85 y272.length co85 : Value).ownBlock) (.slice (some ⟨go75, 0, none⟩) x8_7.length co57) y278 := (by rw [hw, Ny278.out]; exact HP86.1); clear HP86; have n0_ := Aside0.mk (hp_); have n1_ := Aside0.mk (Kd.V_afterv (v := (.slice (some ⟨go75, 0, none⟩) x8_7.length co57)) (v1 := (.slice (some ⟨go75, 0, none⟩) x8_7.length co57)) (ok := (fun k_ => (w.heap.size ≤ k_) ∧ some k_ ≠ (.slice Ao85 y272.length co85 : Value).ownBlock ∧ some k_ ≠ ((.slice AoN_ y275.length coN_ : Value) : Value).ownBlock)) (by (with_reducible repeat (first | apply Kd.V_alloc | apply Kd.V_drewN | apply Kd.V_drew)); exact Kd.V_mono HL268_2.out (fun _ hk => ⟨⟨hk.1.1, ⟨hk.1.2.2, hk.2⟩⟩, hk.1.2.1⟩)) hg (.inl rfl)); have n2_ := Aside0.mk (Kd.R_over' (v := (.slice (some ⟨go75, 0, none⟩) x8_7.length co57)) HO274.out (Kd.N_typed HO_8.out) (by decide) hg); have n3_ := Aside0.mk ((by rw [hw]; exact below_set (HB.out) GB75.out : Below w.heap.size w w87)); clear HO_8; clear HL268_2; clear HO274; clear HB; clear HO277; have HO_8 := n0_; have HL268_2 := n1_; have HO274 := n2_; have HB := n3_; clear n0_ n1_ n2_ n3_; clear hg hw hp_; have p76 : 0 ≤ (x9_7 : Int) := of_decide_eq_true (by first | (with_reducible assumption) | assumption); have q76 : (x9_7 : Int) < ((x8_7.length : Int) : Int) := of_decide_eq_true (by first | (with_reducible assumption) | assumption); obtain ⟨ce76, hcl76, hM76, hcc76, hfr76⟩ := Kd.N_elem HO_8.out z52 (x9_7 : Int) p76 q76; obtain ⟨ua76_2, uc76_2, rfl, ul76_2, ge76_2⟩ := sw_k52_openF hM76; have hx76_0 : w87.cell? ⟨go75, (x9_7 : Int).toNat * 3, none⟩ = some (.string ((rd_T52 y278 x9_7).f0)) := hcc76 0 _ rfl; have hx76_1 : w87.cell? ⟨go75, (x9_7 : Int).toNat * 3 + 1, none⟩ = some (.int .i64 ((rd_T52 y278 x9_7).f1)) := hcc76 1 _ rfl; have hx76_2 : w87.cell? ⟨go75, (x9_7 : Int).toNat * 3 + 2, none⟩ = some (.slice ua76_2 ((rd_T52 y278 x9_7).f2).length uc76_2) := hcc76 2 _ rfl; have hf76_0 : w87.frozen? ⟨go75, (x9_7 : Int).toNat * 3, none⟩ = false := hfr76 0; have hf76_1 : w87.frozen? ⟨go75, (x9_7 : Int).toNat * 3 + 1, none⟩ = false := hfr76 1; have hf76_2 : w87.frozen? ⟨go75, (x9_7 : Int).toNat * 3 + 2, none⟩ = false := hfr76 2; clear hcl76 hcc76 hfr76 hM76; replace p76 := eq_true p76; replace q76 := eq_true q76; have HX88 := Aside0.mk (show Kd.N k52 52 w87 w.heap.size (fun k_ => (w.heap.size ≤ k_) ∧ some k_ ≠ (.slice Ao85 y272.length co85 : Value).ownBlock) (.slice (some ⟨go75, 0, none⟩) x8_7.length co57) y278 from (by (with_reducible repeat (first | apply Kd.N_alloc | apply Kd.N_drewN | apply Kd.N_drew)); exact HO_8.out)); obtain ⟨ce88, hcl88, hM88, hcc88, hfr88⟩ := Kd.N_elem HX88.out z52 (x9_7 : Int) (of_decide_eq_true (by first | (with_reducible assumption) | assumption)) (by have h_ : (x9_7 : Int) < ((x8_7.length : Int) : Int) := of_decide_eq_true (by first | (with_reducible assumption) | assumption); first | exact h_ | (have e_ := (Kd.N_reads' HO_8.out).1; omega) | simpa using h_); obtain ⟨ua88_2, uc88_2, rfl, ul88_2, ge88_2⟩ := sw_k52_openF hM88; have HP88 := Kd.N_seg HX88.out (x9_7 : Int) (of_decide_eq_true (by first | (with_reducible assumption) | assumption)) (by have h_ : (x9_7 : Int) < ((x8_7.length : Int) : Int) := of_decide_eq_true (by first | (with_reducible assumption) | assumption); first | exact h_ | (have e_ := (Kd.N_reads' HO_8.out).1; omega) | simpa using h_) (seg := [.int .i64 x12_65]) (j := 1) hcl88 hcc88 (show 2 ≤ 3 from by decide) (x' := (⟨(rd_T52 y278 x9_7).f0, x12_65, (rd_T52 y278 x9_7).f2⟩ : S52)) (sw_k52_mkF _ _ (⟨(rd_T52 y278 x9_7).f0, x12_65, (rd_T52 y278 x9_7).f2⟩ : S52) ul88_2 ge88_2) (fun _ hk => hk); have hx88_1 := hcc88 1 _ rfl; (try simp only [show (k52).sz = 3 from rfl, Nat.mul_one, Nat.add_zero] at hx88_1); have hf88_1 := hfr88 1; (try simp only [show (k52).sz = 3 from rfl, Nat.mul_one, Nat.add_zero] at hf88_1); clear hcl88 hcc88 hfr88 hM88) | ((with_reducible refine gate_store (t := 2) (p := 98) rfl ?_); refine store_event (t := 2) (p := 98) (v := ?vo_w89) (w1 := (w87.setCell ⟨go75, (x9_7 : Int).toNat * 3 + 1, none⟩ (.int .i64 x12_65))) ?hg ?ho ?hn ?hr ?_; (case ho => rfl); (case hg => rfl); (case hn => rfl); (case hr => first | (go_simp; done) | (go_simp; rfl) | (obtain ⟨_, _, e_⟩ := Kd.R_slice HO277.out; subst e_; first | (go_simp; done) | (go_simp; rfl))); intro w89 hw; have hg : w87.grownBy w89 (some go75) := (by rw [hw]; exact HP88.2); have hp_ : Kd.N k52 52 w89 w.heap.size (fun k_ => (w.heap.size ≤ k_) ∧ some k_ ≠ (.slice Ao85 y272.length co85 : Value).ownBlock) (.slice (some ⟨go75, 0, none⟩) x8_7.length co57) y279 := (by rw [hw, Ny279.out]; exact HP88.1); clear HP88; have n0_ := Aside0.mk (hp_); have n1_ := Aside0.mk (Kd.V_afterv (v := (.slice (some ⟨go75, 0, none⟩) x8_7.length co57)) (v1 := (.slice (some ⟨go75, 0, none⟩) x8_7.length co57)) (ok := (fun k_ => (w.heap.size ≤ k_) ∧ some k_ ≠ (.slice Ao85 y272.length co85 : Value).ownBlock)) (by (with_reducible repeat (first | apply Kd.V_alloc | apply Kd.V_drewN | apply Kd.V_drew)); exact Kd.V_mono HL268_2.out (fun _ hk => ⟨⟨hk.1.1, hk.1.2.1⟩, hk.2⟩)) hg (.inl rfl)); have n2_ := Aside0.mk (Kd.R_over' (v := (.slice (some ⟨go75, 0, none⟩) x8_7.length co57)) HO274.out (Kd.N_typed HO_8.out) (by decide) hg); have n3_ := Aside0.mk ((by rw [hw]; exact below_set (HB.out) GB75.out : Below w.heap.size w w89)); clear HO_8; clear HL268_2; clear HO274; clear HB; have HO_8 := n0_; have HL268_2 := n1_; have HO274 := n2_; have HB := n3_; clear n0_ n1_ n2_ n3_; clear hg hw hp_) | ((with_reducible refine gate_callee (f := 10) rfl ?_); refine goesL_ (some 100) rfl rfl Try.func10 (by kernel_rfl) rfl #[.slice (some ⟨go75, 0, none⟩) y279.length co57] rfl (by (try simp only [List.map_toArray, List.map_cons, List.map_nil]); first | done | (rw [show y279.length = x8_7.length from (Kd.N_reads' HO_8.out).1.symm] <;> rfl) | rfl | (simp only [List.length_drop, List.length_take]; rfl)) ?_; (with_reducible refine (spec_ProfilesOk.calls kj65 _ _ y279 true _ ?side1 ?side2 A77.out).mono ?_); (case side1 => repeat (first | exact (Kd.N_reads' HO_8.out).2.2 | (with_reducible refine Kd.C_alloc ?_ _) | (with_reducible refine Kd.C_drewN ?_ _) | (with_reducible refine Kd.C_drew ?_))); (case side2 => rw [show y279.length = x8_7.length from (Kd.N_reads' HO_8.out).1.symm]; exact (Kd.N_reads' HO_8.out).2.1); rintro e w90 ⟨rfl, hb⟩; refine ⟨_, rfl, ?_⟩; have n0_ := Aside0.mk (Kd.N_below (by (with_reducible repeat (first | apply Kd.N_alloc | apply Kd.N_drewN | apply Kd.N_drew)); exact HO_8.out) hb); have n1_ := Aside0.mk (Kd.V_below (by (with_reducible repeat (first | apply Kd.V_alloc | apply Kd.V_drewN | apply Kd.V_drew)); exact HL268_2.out) hb); have n2_ := Aside0.mk (Kd.R_below (by (with_reducible repeat (first | apply Kd.R_alloc | apply Kd.R_drewN | apply Kd.R_drew)); exact HO274.out) hb); have n3_ := Aside0.mk (below_step qB hb); clear HO_8; clear HL268_2; clear HO274; clear HB; have HO_8 := n0_; have HL268_2 := n1_; have HO274 := n2_; have HB := n3_; clear n0_ n1_ n2_ n3_; (try clear hb); (try clear hb2); (try clear hk); (try clear hi)))
                  go_ret2
                  exact ⟨_, by first | rfl | (simp [errW_none, errW_some] <;> rfl) | (simp [*, errW_none, errW_some] <;> rfl), by (with_reducible repeat (first | apply Kd.N_alloc | apply Kd.N_drewN | apply Kd.N_drew)); exact Kd.N_mono HO_8.out (fun _ hk => hk.1), by repeat (first | (with_reducible first | exact HB.out | apply below_alloc | apply pw_below_drewN | apply below_drew1) | exact HB.out)⟩
                 ·replace c78 := Bool.eq_false_iff.mpr c78
                  subst c78
                  have H1 : ((spec_l13Copy.f kj65 l0).bind fun t281 => (some (t281, false))) = some (r1, r2) := by rw [if_neg (show ¬ (false = true) by decide)] at H; exact H
                  clear H
                  have H := H1
                  clear H1
                  replace H := Option.bind_eq_some_iff.mp H
                  obtain ⟨t281, A910, H⟩ := H
                  replace H : (some (t281, false)) = some (r1, r2) := H
                  have A91 := Aside0.mk A910
                  clear A910
                  simp only [Option.some.injEq, Prod.mk.injEq] at H
                  obtain ⟨rfl, rfl⟩ := H
                  go_wp2_with (first | ((with_reducible refine gate_dst (N := 83) rfl ?_); refine Kd.R_lit k56 _ 56 ?hg (N := 83) ?hd (xs := ([] : List (S56))) (inner := []) (ok := fun _ => True) (okp := fun _ => True) ?hr ?hp (fun _ hk => hk) trivial (Below.refl _ _) (Nat.le_refl _) (by simp) ?_; (case hd => rfl); (case hg => rfl); (case hr => first | (go_simp; done) | (go_simp; rfl) | (obtain ⟨_, _, e_⟩ := Kd.R_slice HO277.out; subst e_; first | (go_simp; done) | (go_simp; rfl))); (case hp => exact (Reps.none _ _)); intro v266 w92 ho93 hb hg_ hnew_; clear hg_ hnew_; have nb_ := Aside0.mk (blk_below BKb.out hb); clear BKb hbx_0 hbx_1 hbx_2; have BKb := nb_; clear nb_; have hbx_0 : World.cell? w92 ⟨gbx, 0, none⟩ = some _ := (blk_cell BKb.out 0).trans rfl; have hbx_1 : World.cell? w92 ⟨gbx, 1, none⟩ = some _ := (blk_cell BKb.out 1).trans rfl; have hbx_2 : World.cell? w92 ⟨gbx, 2, none⟩ = some _ := (blk_cell BKb.out 2).trans rfl; (first | rw [← Ny265.out] at ho93 | (simp only [Int.reduceToNat] at ho93; rw [← Ny265.out] at ho93)); have n0_ := Aside0.mk (Kd.N_elder' (by (with_reducible repeat (first | apply Kd.N_alloc | apply Kd.N_drewN | apply Kd.N_drew)); exact HO_8.out) (Kd.R_base ho93) hb); have n1_ := Aside0.mk (Kd.R_lower (Kd.R_newM (M := fun k_ => (w.heap.size ≤ k_)) ho93 (below_size qB) (fun k_ h_ => h_)) (below_size qB)); have n2_ := Aside0.mk (Kd.C_below (by repeat (first | (with_reducible exact HR255_2.out) | (with_reducible refine Kd.C_alloc ?_ _) | (with_reducible refine Kd.C_drewN ?_ _) | (with_reducible refine Kd.C_drew ?_) | exact HR255_2.out)) hb); have n3_ := Aside0.mk (Kd.C_below (by repeat (first | (with_reducible exact HR261_2.out) | (with_reducible refine Kd.C_alloc ?_ _) | (with_reducible refine Kd.C_drewN ?_ _) | (with_reducible refine Kd.C_drew ?_) | exact HR261_2.out)) hb); have n4_ := Aside0.mk (below_step qB hb); clear HO_8; clear HR255_2; clear HR261_2; clear HB; have HO_8 := n0_; have HO267 := n1_; have HR255_2 := n2_; have HR261_2 := n3_; have HB := n4_; clear n0_ n1_ n2_ n3_ n4_; clear hb ho93; have p268 : 0 ≤ (x9_7 : Int) := of_decide_eq_true (by first | (with_reducible assumption) | assumption); have q268 : x9_7 < (x8_7.length : Int) := of_decide_eq_true (by first | (with_reducible assumption) | assumption); obtain ⟨ad268, A268_2, c268_2, e268, hx268_0, hx268_1, hx268_2, hl268_2, hi268_2⟩ := at_T52 (Kd.N_reads' HO_8.out).2.2 x9_7 p268 q268; obtain rfl : ad255 = ad268 := (by injection e268); obtain ⟨ce268, hce268, hMe268, hcc268⟩ := Kd.N_get HO_8.out z52 x9_7 p268 (by first | exact q268 | exact of_decide_eq_true (by first | (with_reducible assumption) | assumption) | (have e_ := (Kd.N_reads' HO_8.out).1; omega)); obtain ⟨ua268_2, uc268_2, rfl, ul268_2, ge268_2⟩ := sw_k52_openF hMe268; have hv268_2 := hcc268 2 _ rfl; rw [add_field _ _ 2 (by omega)] at hv268_2; replace hv268_2 := Option.some.inj (hv268_2.symm.trans hx268_2); injection hv268_2 with hva_ hvn_ hvc_; rw [hva_] at ge268_2; rw [hvc_] at ul268_2; have HL268_2 := Aside0.mk (show Kd.V k56 56 _ w.heap.size _ _ ((rd_T52 x8_7 x9_7).f2) from Kd.V_mk ul268_2 ge268_2); clear hva_ hvn_ hvc_ ge268_2 ul268_2; clear hcc268 hce268; have HR268_2 := Aside0.mk hi268_2; have HC268_2 := Aside0.mk hl268_2; clear hi268_2 hl268_2; replace p268 := eq_true p268; replace q268 := eq_true q268) | ((with_reducible refine gate_builtin (b := .append) (xs := #[.tmp 83, .tmp 85]) rfl ?_); at_builtin; refine Kd.R_append_rows k56 (w0 := w) w.heap.size rfl (.tmp 83) (.tmp 85) 50 56 (.agg #[(.int .i64 0), (.string ⟨#[]⟩)]) 24 rfl Try.underlying50 info56 rfl (by decide) (by omega) v266 y265 ((rd_T52 x8_7 x9_7).f2) _ _ _ (fun k_ => (w.heap.size ≤ k_)) (fun _ => False) rfl rfl ?aO ?aR (fun _ _ h => h) (fun _ h => h.elim) ?aF ?aB ?aS ?aL ?_; (case aR => repeat (first | exact (by repeat (first | (with_reducible exact HR255_2.out) | (with_reducible refine Kd.C_alloc ?_ _) | (with_reducible refine Kd.C_drewN ?_ _) | (with_reducible refine Kd.C_drew ?_) | exact HR255_2.out)) | (with_reducible refine Kd.C_alloc ?_ _) | (with_reducible refine Kd.C_drewN ?_ _) | (with_reducible refine Kd.C_drew ?_))); (case aB => exact qB); (case aF => exact (fun k_ hk => (Nat.le_trans (below_size qB) hk))); (case aO => exact (by (with_reducible repeat (first | apply Kd.R_alloc | apply Kd.R_drewN | apply Kd.R_drew)); exact Kd.R_mono HO267.out (fun _ hk => hk.1))); (case aS => exact (below_size qB)); (case aL => have := LMc73.out; omega); intro v270 w94 ho hb hg hat; rw [← Ny269.out] at ho; have n0_ := Aside0.mk (Kd.N_afterv (ok := (fun k_ => (w.heap.size ≤ k_))) (by (with_reducible repeat (first | apply Kd.N_alloc | apply Kd.N_drewN | apply Kd.N_drew)); exact HO_8.out) hg hat); have n1_ := Aside0.mk (Kd.V_afterv (ok := (fun k_ => (w.heap.size ≤ k_) ∧ some k_ ≠ (.slice (some ad255) x8_7.length co57 : Value).ownBlock)) (by (with_reducible repeat (first | apply Kd.V_alloc | apply Kd.V_drewN | apply Kd.V_drew)); exact Kd.V_mono HL268_2.out (fun _ hk => ⟨⟨hk.1.1, hk.2⟩, hk.1.2⟩)) hg hat); have n2_ := Aside0.mk (hb); have n3_ := Aside0.mk (ho); clear HO_8; clear HL268_2; clear HB; clear HO267; have HO_8 := n0_; have HL268_2 := n1_; have HB := n2_; have HO271 := n3_; clear n0_ n1_ n2_ n3_; clear ho hb hg hat) | ((with_reducible refine gate_dst (N := 90) rfl ?_); refine Kd.R_lit k56 _ 56 ?hg (N := 90) ?hd (xs := ([(⟨x12_65, a2⟩ : S56)] : List (S56))) (inner := [.int .i64 x12_65, .string a2]) (ok := fun _ => True) (okp := fun _ => True) ?hr ?hp (fun _ hk => hk) trivial (Below.refl _ _) (Nat.le_refl _) (by simp) ?_; (case hd => rfl); (case hg => rfl); (case hr => first | (go_simp; done) | (go_simp; rfl) | (obtain ⟨_, _, e_⟩ := Kd.R_slice HO277.out; subst e_; first | (go_simp; done) | (go_simp; rfl))); (case hp => exact (Reps.c2 (show Kd.M k56 _ _ _ (⟨x12_65, a2⟩ : S56) [.int .i64 x12_65, .string a2] from (k56_mkM _ _ _ (⟨x12_65, a2⟩ : S56) )) (Reps.none _ _))); intro v273 w95 ho96 hb hg_ hnew_; clear hg_ hnew_; (first | rw [← Ny272.out] at ho96 | (simp only [Int.reduceToNat] at ho96; rw [← Ny272.out] at ho96)); have n0_ := Aside0.mk (Kd.N_elder' (by (with_reducible repeat (first | apply Kd.N_alloc | apply Kd.N_drewN | apply Kd.N_drew)); exact HO_8.out) (Kd.R_base ho96) hb); have n1_ := Aside0.mk (Kd.V_elder' (by (with_reducible repeat (first | apply Kd.V_alloc | apply Kd.V_drewN | apply Kd.V_drew)); exact HL268_2.out) (Kd.R_base ho96) hb); have n2_ := Aside0.mk (Kd.R_elder' (by (with_reducible repeat (first | apply Kd.R_alloc | apply Kd.R_drewN | apply Kd.R_drew)); exact HO271.out) (Kd.R_base ho96) hb); have n3_ := Aside0.mk (Kd.R_lower (Kd.R_new' (Kd.R_newM (M := fun k_ => (w.heap.size ≤ k_)) ho96 (below_size qB) (fun k_ h_ => h_)) (Kd.R_lt (by (with_reducible repeat (first | apply Kd.R_alloc | apply Kd.R_drewN | apply Kd.R_drew)); exact HO271.out))) (below_size qB)); have n4_ := Aside0.mk (below_step qB hb); clear HO_8; clear HL268_2; clear HO271; clear HB; have HO_8 := n0_; have HL268_2 := n1_; have HO271 := n2_; have HO274 := n3_; have HB := n4_; clear n0_ n1_ n2_ n3_ n4_; clear hb ho96; obtain ⟨Ao98, co98, eo98⟩ := Kd.R_slice HO274.out; subst eo98) | ((with_reducible refine gate_builtin (b := .append) (xs := #[.tmp 86, .tmp 90]) rfl ?_); at_builtin; refine Kd.R_append_rows k56 (w0 := w) w.heap.size rfl (.tmp 86) (.tmp 90) 50 56 (.agg #[(.int .i64 0), (.string ⟨#[]⟩)]) 24 rfl Try.underlying50 info56 rfl (by decide) (by omega) v270 y269 y272 _ _ _ (fun k_ => (w.heap.size ≤ k_) ∧ some k_ ≠ (.slice Ao98 y272.length co98 : Value).ownBlock) (fun _ => False) rfl rfl ?aO ?aR (fun _ _ h => h) (fun _ h => h.elim) ?aF ?aB ?aS ?aL ?_; (case aR => repeat (first | exact (Kd.R_reads' HO274.out).2.2 | (with_reducible refine Kd.C_alloc ?_ _) | (with_reducible refine Kd.C_drewN ?_ _) | (with_reducible refine Kd.C_drew ?_))); (case aB => exact qB); (case aF => exact (fun k_ hk => ⟨(Nat.le_trans (below_size qB) hk), Kd.fresh' (Kd.R_lt (by (with_reducible repeat (first | apply Kd.R_alloc | apply Kd.R_drewN | apply Kd.R_drew)); exact HO274.out)) k_ hk⟩)); (case aO => exact (by (with_reducible repeat (first | apply Kd.R_alloc | apply Kd.R_drewN | apply Kd.R_drew)); exact HO271.out)); (case aS => exact (below_size qB)); (case aL => have := LMc74.out; omega); intro v276 w97 ho hb hg hat; rw [← Ny275.out] at ho; have n0_ := Aside0.mk (Kd.N_afterv (ok := (fun k_ => (w.heap.size ≤ k_) ∧ some k_ ≠ (.slice Ao98 y272.length co98 : Value).ownBlock)) (by (with_reducible repeat (first | apply Kd.N_alloc | apply Kd.N_drewN | apply Kd.N_drew)); exact Kd.N_mono HO_8.out (fun _ hk => ⟨⟨hk.1.1, hk.2⟩, hk.1.2⟩)) hg hat); have n1_ := Aside0.mk (Kd.V_afterv (ok := (fun k_ => (w.heap.size ≤ k_) ∧ some k_ ≠ (.slice (some ad255) x8_7.length co57 : Value).ownBlock ∧ some k_ ≠ (.slice Ao98 y272.length co98 : Value).ownBlock)) (by (with_reducible repeat (first | apply Kd.V_alloc | apply Kd.V_drewN | apply Kd.V_drew)); exact Kd.V_mono HL268_2.out (fun _ hk => ⟨⟨hk.1.1.1, ⟨hk.1.1.2, hk.2⟩⟩, hk.1.2⟩)) hg hat); have n2_ := Aside0.mk (Kd.R_after (ok := (fun k_ => (w.heap.size ≤ k_))) (by (with_reducible repeat (first | apply Kd.R_alloc | apply Kd.R_drewN | apply Kd.R_drew)); exact Kd.R_mono HO274.out (fun _ hk => ⟨hk.1.1, hk.2⟩)) hg hat); have n3_ := Aside0.mk (hb); have n4_ := Aside0.mk (ho); clear HO_8; clear HL268_2; clear HO274; clear HB; clear HO271; have HO_8 := n0_; have HL268_2 := n1_; have HO274 := n2_; have HB := n3_; have HO277 := n4_; clear n0_ n1_ n2_ n3_ n4_; clear ho hb hg hat; obtain ⟨AoN_, coN_, eoN_⟩ := Kd.R_slice HO277.out; subst eoN_; have p75 : 0 ≤ (x9_7 : Int) := of_decide_eq_true (by first | (with_reducible assumption) | assumption); have q75 : (x9_7 : Int) < ((x8_7.length : Int) : Int) := of_decide_eq_true (by first | (with_reducible assumption) | assumption); obtain ⟨go75, co75, eo75, gb75, gl75, cl75, HG75⟩ := Kd.N_form HO_8.out (by omega); (first | cases eo75 | (injection eo75 with ea_ en_ ec_; (first | subst ea_ | (injection ea_ with ea_; subst ea_)); subst ec_; clear en_)); have GB75 := Aside0.mk gb75; have GG75 := Aside0.mk HG75; clear gb75 gl75 HG75; (first | simp only [add_plain] at hx268_0 | skip); (first | simp only [add_plain] at hx268_1 | skip); (first | simp only [add_plain] at hx268_2 | skip); obtain ⟨ce75, hcl75, hM75, hcc75, hfr75⟩ := Kd.N_elem HO_8.out z52 (x9_7 : Int) p75 q75; obtain ⟨ua75_2, uc75_2, rfl, ul75_2, ge75_2⟩ := sw_k52_openF hM75; have hx75_0 : w97.cell? ⟨go75, (x9_7 : Int).toNat * 3, none⟩ = some (.string ((rd_T52 x8_7 x9_7).f0)) := hcc75 0 _ rfl; have hx75_1 : w97.cell? ⟨go75, (x9_7 : Int).toNat * 3 + 1, none⟩ = some (.int .i64 ((rd_T52 x8_7 x9_7).f1)) := hcc75 1 _ rfl; have hx75_2 : w97.cell? ⟨go75, (x9_7 : Int).toNat * 3 + 2, none⟩ = some (.slice ua75_2 ((rd_T52 x8_7 x9_7).f2).length uc75_2) := hcc75 2 _ rfl; have hf75_0 : w97.frozen? ⟨go75, (x9_7 : Int).toNat * 3, none⟩ = false := hfr75 0; have hf75_1 : w97.frozen? ⟨go75, (x9_7 : Int).toNat * 3 + 1, none⟩ = false := hfr75 1; have hf75_2 : w97.frozen? ⟨go75, (x9_7 : Int).toNat * 3 + 2, none⟩ = false := hfr75 2; clear hcl75 hcc75 hfr75 hM75; replace p75 := eq_true p75; replace q75 := eq_true q75; have n_ := Aside0.mk (Kd.N_mono (ok' := (fun k_ => (w.heap.size ≤ k_) ∧ some k_ ≠ (.slice Ao98 y272.length co98 : Value).ownBlock ∧ some k_ ≠ ((.slice AoN_ y275.length coN_ : Value) : Value).ownBlock)) HO_8.out (fun k_ hk => ⟨hk.1.1, ⟨hk.1.2, hk.2⟩⟩)); clear HO_8; have HO_8 := n_; clear n_; have HX99 := Aside0.mk (show Kd.N k52 52 w97 w.heap.size (fun k_ => (w.heap.size ≤ k_) ∧ some k_ ≠ (.slice Ao98 y272.length co98 : Value).ownBlock) (.slice (some ⟨go75, 0, none⟩) x8_7.length co57) x8_7 from (by (with_reducible repeat (first | apply Kd.N_alloc | apply Kd.N_drewN | apply Kd.N_drew)); exact Kd.N_mono HO_8.out (fun _ hk => ⟨hk.1, hk.2.1⟩))); obtain ⟨ce99, hcl99, hM99, hcc99, hfr99⟩ := Kd.N_elem HX99.out z52 (x9_7 : Int) (of_decide_eq_true (by first | (with_reducible assumption) | assumption)) (by have h_ : (x9_7 : Int) < ((x8_7.length : Int) : Int) := of_decide_eq_true (by first | (with_reducible assumption) | assumption); first | exact h_ | (have e_ := (Kd.N_reads' HO_8.out).1; omega) | simpa using h_); obtain ⟨ua99_2, uc99_2, rfl, ul99_2, ge99_2⟩ := sw_k52_openF hM99; have HP99 := Kd.N_seg HX99.out (x9_7 : Int) (of_decide_eq_true (by first | (with_reducible assumption) | assumption)) (by have h_ : (x9_7 : Int) < ((x8_7.length : Int) : Int) := of_decide_eq_true (by first | (with_reducible assumption) | assumption); first | exact h_ | (have e_ := (Kd.N_reads' HO_8.out).1; omega) | simpa using h_) (seg := [(.slice AoN_ y275.length coN_ : Value)]) (j := 2) hcl99 hcc99 (show 3 ≤ 3 from by decide) (x' := (⟨(rd_T52 x8_7 x9_7).f0, (rd_T52 x8_7 x9_7).f1, y275⟩ : S52)) (sw_k52_mkF _ _ (⟨(rd_T52 x8_7 x9_7).f0, (rd_T52 x8_7 x9_7).f1, y275⟩ : S52) (Kd.R_reads' (Kd.R_mono (ok' := (fun k_ => ((fun k_ => (w.heap.size ≤ k_) ∧ some k_ ≠ (.slice Ao98 y272.length co98 : Value).ownBlock)) k_ ∧ k_ ≠ go75)) (Kd.R_apart' (HO277.out) (Kd.N_typed HO_8.out) (by decide)) (fun k_ hk => ⟨⟨hk.1.1, hk.1.2⟩, fun e_ => (hk.2) (by rw [e_]; rfl)⟩))).2.1 (Kd.R_F (Kd.R_mono (ok' := (fun k_ => ((fun k_ => (w.heap.size ≤ k_) ∧ some k_ ≠ (.slice Ao98 y272.length co98 : Value).ownBlock)) k_ ∧ k_ ≠ go75)) (Kd.R_apart' (HO277.out) (Kd.N_typed HO_8.out) (by decide)) (fun k_ hk => ⟨⟨hk.1.1, hk.1.2⟩, fun e_ => (hk.2) (by rw [e_]; rfl)⟩)))) (fun _ hk => hk); have hx99_2 := hcc99 2 _ rfl; (try simp only [show (k52).sz = 3 from rfl, Nat.mul_one, Nat.add_zero] at hx99_2); have hf99_2 := hfr99 2; (try simp only [show (k52).sz = 3 from rfl, Nat.mul_one, Nat.add_zero] at hf99_2); clear hcl99 hcc99 hfr99 hM99) | ((with_reducible refine gate_store (t := 50) (p := 93) rfl ?_); refine store_event (t := 50) (p := 93) (v := ?vo_w100) (w1 := (w97.setCell ⟨go75, (x9_7 : Int).toNat * 3 + 2, none⟩ ((.slice AoN_ y275.length coN_ : Value)))) ?hg ?ho ?hn ?hr ?_; (case ho => rfl); (case hg => rfl); (case hn => rfl); (case hr => first | (go_simp; done) | (go_simp; rfl) | (obtain ⟨_, _, e_⟩ := Kd.R_slice HO277.out; subst e_; first | (go_simp; done) | (go_simp; rfl))); intro w100 hw; have hg : w97.grownBy w100 (some go75) := (by rw [hw]; exact HP99.2); have hp_ : Kd.N k52 52 w100 w.heap.size (fun k_ => (w.heap.size ≤ k_) ∧ some k_ ≠ (.slice Ao98 y272.length co98 : Value).ownBlock) (.slice (some ⟨go75, 0, none⟩) x8_7.length co57) y278 := (by rw [hw, Ny278.out]; exact HP99.1); clear HP99; have n0_ := Aside0.mk (hp_); have n1_ := Aside0.mk (Kd.V_afterv (v := (.slice (some ⟨go75, 0, none⟩) x8_7.length co57)) (v1 := (.slice (some ⟨go75, 0, none⟩) x8_7.length co57)) (ok := (fun k_ => (w.heap.size ≤ k_) ∧ some k_ ≠ (.slice Ao98 y272.length co98 : Value).ownBlock ∧ some k_ ≠ ((.slice AoN_ y275.length coN_ : Value) : Value).ownBlock)) (by (with_reducible repeat (first | apply Kd.V_alloc | apply Kd.V_drewN | apply Kd.V_drew)); exact Kd.V_mono HL268_2.out (fun _ hk => ⟨⟨hk.1.1, ⟨hk.1.2.2, hk.2⟩⟩, hk.1.2.1⟩)) hg (.inl rfl)); have n2_ := Aside0.mk (Kd.R_over' (v := (.slice (some ⟨go75, 0, none⟩) x8_7.length co57)) HO274.out (Kd.N_typed HO_8.out) (by decide) hg); have n3_ := Aside0.mk ((by rw [hw]; exact below_set (HB.out) GB75.out : Below w.heap.size w w100)); clear HO_8; clear HL268_2; clear HO274; clear HB; clear HO277; have HO_8 := n0_; have HL268_2 := n1_; have HO274 := n2_; have HB := n3_; clear n0_ n1_ n2_ n3_; clear hg hw hp_; have p76 : 0 ≤ (x9_7 : Int) := of_decide_eq_true (by first | (with_reducible assumption) | assumption); have q76 : (x9_7 : Int) < ((x8_7.length : Int) : Int) := of_decide_eq_true (by first | (with_reducible assumption) | assumption); obtain ⟨ce76, hcl76, hM76, hcc76, hfr76⟩ := Kd.N_elem HO_8.out z52 (x9_7 : Int) p76 q76; obtain ⟨ua76_2, uc76_2, rfl, ul76_2, ge76_2⟩ := sw_k52_openF hM76; have hx76_0 : w100.cell? ⟨go75, (x9_7 : Int).toNat * 3, none⟩ = some (.string ((rd_T52 y278 x9_7).f0)) := hcc76 0 _ rfl; have hx76_1 : w100.cell? ⟨go75, (x9_7 : Int).toNat * 3 + 1, none⟩ = some (.int .i64 ((rd_T52 y278 x9_7).f1)) := hcc76 1 _ rfl; have hx76_2 : w100.cell? ⟨go75, (x9_7 : Int).toNat * 3 + 2, none⟩ = some (.slice ua76_2 ((rd_T52 y278 x9_7).f2).length uc76_2) := hcc76 2 _ rfl; have hf76_0 : w100.frozen? ⟨go75, (x9_7 : Int).toNat * 3, none⟩ = false := hfr76 0; have hf76_1 : w100.frozen? ⟨go75, (x9_7 : Int).toNat * 3 + 1, none⟩ = false := hfr76 1; have hf76_2 : w100.frozen? ⟨go75, (x9_7 : Int).toNat * 3 + 2, none⟩ = false := hfr76 2; clear hcl76 hcc76 hfr76 hM76; replace p76 := eq_true p76; replace q76 := eq_true q76; have HX101 := Aside0.mk (show Kd.N k52 52 w100 w.heap.size (fun k_ => (w.heap.size ≤ k_) ∧ some k_ ≠ (.slice Ao98 y272.length co98 : Value).ownBlock) (.slice (some ⟨go75, 0, none⟩) x8_7.length co57) y278 from (by (with_reducible repeat (first | apply Kd.N_alloc | apply Kd.N_drewN | apply Kd.N_drew)); exact HO_8.out)); obtain ⟨ce101, hcl101, hM101, hcc101, hfr101⟩ := Kd.N_elem HX101.out z52 (x9_7 : Int) (of_decide_eq_true (by first | (with_reducible assumption) | assumption)) (by have h_ : (x9_7 : Int) < ((x8_7.length : Int) : Int) := of_decide_eq_true (by first | (with_reducible assumption) | assumption); first | exact h_ | (have e_ := (Kd.N_reads' HO_8.out).1; omega) | simpa using h_); obtain ⟨ua101_2, uc101_2, rfl, ul101_2, ge101_2⟩ := sw_k52_openF hM101; have HP101 := Kd.N_seg HX101.out (x9_7 : Int) (of_decide_eq_true (by first | (with_reducible assumption) | assumption)) (by have h_ : (x9_7 : Int) < ((x8_7.length : Int) : Int) := of_decide_eq_true (by first | (with_reducible assumption) | assumption); first | exact h_ | (have e_ := (Kd.N_reads' HO_8.out).1; omega) | simpa using h_) (seg := [.int .i64 x12_65]) (j := 1) hcl101 hcc101 (show 2 ≤ 3 from by decide) (x' := (⟨(rd_T52 y278 x9_7).f0, x12_65, (rd_T52 y278 x9_7).f2⟩ : S52)) (sw_k52_mkF _ _ (⟨(rd_T52 y278 x9_7).f0, x12_65, (rd_T52 y278 x9_7).f2⟩ : S52) ul101_2 ge101_2) (fun _ hk => hk); have hx101_1 := hcc101 1 _ rfl; (try simp only [show (k52).sz = 3 from rfl, Nat.mul_one, Nat.add_zero] at hx101_1); have hf101_1 := hfr101 1; (try simp only [show (k52).sz = 3 from rfl, Nat.mul_one, Nat.add_zero] at hf101_1); clear hcl101 hcc101 hfr101 hM101) | ((with_reducible refine gate_store (t := 2) (p := 98) rfl ?_); refine store_event (t := 2) (p := 98) (v := ?vo_w102) (w1 := (w100.setCell ⟨go75, (x9_7 : Int).toNat * 3 + 1, none⟩ (.int .i64 x12_65))) ?hg ?ho ?hn ?hr ?_; (case ho => rfl); (case hg => rfl); (case hn => rfl); (case hr => first | (go_simp; done) | (go_simp; rfl) | (obtain ⟨_, _, e_⟩ := Kd.R_slice HO277.out; subst e_; first | (go_simp; done) | (go_simp; rfl))); intro w102 hw; have hg : w100.grownBy w102 (some go75) := (by rw [hw]; exact HP101.2); have hp_ : Kd.N k52 52 w102 w.heap.size (fun k_ => (w.heap.size ≤ k_) ∧ some k_ ≠ (.slice Ao98 y272.length co98 : Value).ownBlock) (.slice (some ⟨go75, 0, none⟩) x8_7.length co57) y279 := (by rw [hw, Ny279.out]; exact HP101.1); clear HP101; have n0_ := Aside0.mk (hp_); have n1_ := Aside0.mk (Kd.V_afterv (v := (.slice (some ⟨go75, 0, none⟩) x8_7.length co57)) (v1 := (.slice (some ⟨go75, 0, none⟩) x8_7.length co57)) (ok := (fun k_ => (w.heap.size ≤ k_) ∧ some k_ ≠ (.slice Ao98 y272.length co98 : Value).ownBlock)) (by (with_reducible repeat (first | apply Kd.V_alloc | apply Kd.V_drewN | apply Kd.V_drew)); exact Kd.V_mono HL268_2.out (fun _ hk => ⟨⟨hk.1.1, hk.1.2.1⟩, hk.2⟩)) hg (.inl rfl)); have n2_ := Aside0.mk (Kd.R_over' (v := (.slice (some ⟨go75, 0, none⟩) x8_7.length co57)) HO274.out (Kd.N_typed HO_8.out) (by decide) hg); have n3_ := Aside0.mk ((by rw [hw]; exact below_set (HB.out) GB75.out : Below w.heap.size w w102)); clear HO_8; clear HL268_2; clear HO274; clear HB; have HO_8 := n0_; have HL268_2 := n1_; have HO274 := n2_; have HB := n3_; clear n0_ n1_ n2_ n3_; clear hg hw hp_) | ((with_reducible refine gate_callee (f := 10) rfl ?_); refine goesL_ (some 100) rfl rfl Try.func10 (by kernel_rfl) rfl #[.slice (some ⟨go75, 0, none⟩) y279.length co57] rfl (by (try simp only [List.map_toArray, List.map_cons, List.map_nil]); first | done | (rw [show y279.length = x8_7.length from (Kd.N_reads' HO_8.out).1.symm] <;> rfl) | rfl | (simp only [List.length_drop, List.length_take]; rfl)) ?_; (with_reducible refine (spec_ProfilesOk.calls kj65 _ _ y279 false _ ?side1 ?side2 A77.out).mono ?_); (case side1 => repeat (first | exact (Kd.N_reads' HO_8.out).2.2 | (with_reducible refine Kd.C_alloc ?_ _) | (with_reducible refine Kd.C_drewN ?_ _) | (with_reducible refine Kd.C_drew ?_))); (case side2 => rw [show y279.length = x8_7.length from (Kd.N_reads' HO_8.out).1.symm]; exact (Kd.N_reads' HO_8.out).2.1); rintro e w103 ⟨rfl, hb⟩; refine ⟨_, rfl, ?_⟩; have n0_ := Aside0.mk (Kd.N_below (by (with_reducible repeat (first | apply Kd.N_alloc | apply Kd.N_drewN | apply Kd.N_drew)); exact HO_8.out) hb); have n1_ := Aside0.mk (Kd.V_below (by (with_reducible repeat (first | apply Kd.V_alloc | apply Kd.V_drewN | apply Kd.V_drew)); exact HL268_2.out) hb); have n2_ := Aside0.mk (Kd.R_below (by (with_reducible repeat (first | apply Kd.R_alloc | apply Kd.R_drewN | apply Kd.R_drew)); exact HO274.out) hb); have n3_ := Aside0.mk (below_step qB hb); clear HO_8; clear HL268_2; clear HO274; clear HB; have HO_8 := n0_; have HL268_2 := n1_; have HO274 := n2_; have HB := n3_; clear n0_ n1_ n2_ n3_; (try clear hb); (try clear hb2); (try clear hk); (try clear hi)) | ((with_reducible refine gate_callee (f := 41) rfl ?_); refine goesL_ (some 103) rfl rfl Try.func41 (by kernel_rfl) rfl #[.slice A0 l0.length c0] rfl (by (try simp only [List.map_toArray, List.map_cons, List.map_nil]); first | done | rfl) ?_; (with_reducible refine (spec_l13Copy.calls kj65 _ _ l0 t281 _ ?side1 ?side2 A91.out).mono ?_); (case side1 => repeat (first | exact (Kd.C_below HR0.out HB.out) | (with_reducible refine Kd.C_alloc ?_ _) | (with_reducible refine Kd.C_drewN ?_ _) | (with_reducible refine Kd.C_drew ?_))); (case side2 => exact HC0.out); rintro e w104 ⟨v282, rfl, ho0, hb⟩; refine ⟨_, rfl, ?_⟩; have n0_ := Aside0.mk (Kd.N_elder' (by (with_reducible repeat (first | apply Kd.N_alloc | apply Kd.N_drewN | apply Kd.N_drew)); exact HO_8.out) (Kd.S_base ho0) hb); have n1_ := Aside0.mk (Kd.V_elder' (by (with_reducible repeat (first | apply Kd.V_alloc | apply Kd.V_drewN | apply Kd.V_drew)); exact HL268_2.out) (Kd.S_base ho0) hb); have n2_ := Aside0.mk (Kd.R_below (by (with_reducible repeat (first | apply Kd.R_alloc | apply Kd.R_drewN | apply Kd.R_drew)); exact HO274.out) hb); have n3_ := Aside0.mk (Kd.N_lower (Kd.N_mono (ok' := fun k_ => (w.heap.size ≤ k_) ∧ some k_ ≠ (.slice (some ⟨go75, 0, none⟩) x8_7.length co57 : Value).ownBlock ∧ some k_ ≠ (.slice Ao98 y272.length co98 : Value).ownBlock) (Kd.S_N (Kd.S_bound ho0)) (fun k_ hk_ => ⟨(Nat.le_trans (below_size qB) hk_.2.1), (Kd.fresh' (Kd.N_lt (by (with_reducible repeat (first | apply Kd.N_alloc | apply Kd.N_drewN | apply Kd.N_drew)); exact HO_8.out)) k_ hk_.2.1), (Kd.fresh' (Kd.R_lt (by (with_reducible repeat (first | apply Kd.R_alloc | apply Kd.R_drewN | apply Kd.R_drew)); exact HO274.out)) k_ hk_.2.1)⟩)) (below_size qB)); have n4_ := Aside0.mk (below_step qB hb); clear HO_8; clear HL268_2; clear HO274; clear HB; have HO_8 := n0_; have HL268_2 := n1_; have HO274 := n2_; have HO283 := n3_; have HB := n4_; clear n0_ n1_ n2_ n3_ n4_; (try clear hb); (try clear hb2); (try clear hk); (try clear hi); (try clear ho0)))
                  go_ret2
                  exact ⟨_, by first | rfl | (simp [errW_none, errW_some] <;> rfl) | (simp [*, errW_none, errW_some] <;> rfl), by (with_reducible repeat (first | apply Kd.N_alloc | apply Kd.N_drewN | apply Kd.N_drew)); exact Kd.N_mono HO283.out (fun _ hk => hk.1), by repeat (first | (with_reducible first | exact HB.out | apply below_alloc | apply pw_below_drewN | apply below_drew1) | exact HB.out)⟩
                ·rw [if_neg c74] at H
                 exact absurd H (by simp)
               ·rw [if_neg c73] at H
                exact absurd H (by simp)
              ·rw [if_neg c72] at H
               exact absurd H (by simp)
             ·rw [if_neg c71] at H
              exact absurd H (by simp)
          ·rw [if_neg c65] at H
           exact absurd H (by simp)
         ·rw [if_neg c64] at H
          exact absurd H (by simp)
     ·rw [if_neg c55] at H
      exact absurd H (by simp)
    ·rw [if_neg c54] at H
     exact absurd H (by simp)
 ·replace c5 := Bool.eq_false_iff.mpr c5
  subst c5
  have H1 : (some ((([] : List (S52))), false)) = some (r1, r2) := by rw [if_neg (show ¬ (false = true) by decide)] at H; exact H
  clear H
  have H := H1
  clear H1
  obtain ⟨y197, hy197⟩ : ∃ y_ : List (S52), y_ = (([] : List (S52))) := ⟨_, rfl⟩
  replace H : (some (y197, false)) = some (r1, r2) := by first | (rw [hy197]; with_reducible exact H) | (have H2_ := (Option.bind_some _ _).symm.trans H; rw [hy197]; with_reducible exact H2_) | (have H2_ := (Option.bind_some _ _).symm.trans H; with_reducible exact H2_) | with_reducible exact H | (rw [hy197]; exact H) | exact H
  have Ny197 := Aside0.mk hy197
  clear hy197
  simp only [Option.some.injEq, Prod.mk.injEq] at H
  obtain ⟨rfl, rfl⟩ := H
  go_enter Try.func22, Try.ntmps22
  go_wp2_with (first | ((with_reducible refine gate_callee (f := 10) rfl ?_); refine goesL_ (some 14) rfl rfl Try.func10 (by kernel_rfl) rfl #[.slice A0 l0.length c0] rfl (by (try simp only [List.map_toArray, List.map_cons, List.map_nil]); first | done | rfl | (simp only [List.length_drop, List.length_take]; rfl)) ?_; (with_reducible refine (spec_ProfilesOk.calls k _ _ l0 false _ ?side1 ?side2 A4.out).mono ?_); (case side1 => repeat (first | exact HR0.out | (with_reducible refine Kd.C_alloc ?_ _) | (with_reducible refine Kd.C_drewN ?_ _) | (with_reducible refine Kd.C_drew ?_))); (case side2 => exact HC0.out); rintro e w105 ⟨rfl, hb⟩; refine ⟨_, rfl, ?_⟩; have n0_ := Aside0.mk (below_step qB hb); clear HB; have HB := n0_; clear n0_; (try clear hb); (try clear hb2); (try clear hk); (try clear hi)) | ((with_reducible refine gate_dst (N := 16) rfl ?_); refine Kd.N_lit k52 _ 52 ?hg (N' := 16) ?hd (xs := ([] : List (S52))) (inner := []) (ok := (fun k_ => (w.heap.size ≤ k_))) (okp := (fun k_ => (w.heap.size ≤ k_))) ?hr ?hp (fun _ hk => hk) ((show ∀ k_, w105.heap.size ≤ k_ → (fun k_ => (w.heap.size ≤ k_)) k_ from fun k_ hk => (Nat.le_trans (below_size qB) hk)) _ (Nat.le_refl _)) (Below.refl _ _) (Nat.le_refl _) (by simp) ?_; (case hd => rfl); (case hg => rfl); (case hr => first | (go_simp; done) | (go_simp; rfl)); (case hp => exact (Reps.none _ _)); intro v198 w106 ho107 hb hg_ hnew_; clear hg_ hnew_; (first | rw [← Ny197.out] at ho107 | (simp only [Int.reduceToNat] at ho107; rw [← Ny197.out] at ho107)); have n0_ := Aside0.mk (Kd.N_lower ho107 (below_size qB)); have n1_ := Aside0.mk (below_step qB hb); clear HB; have HO199 := n0_; have HB := n1_; clear n0_ n1_; clear hb ho107))
  go_ret2
  exact ⟨_, by first | rfl | (simp [errW_none, errW_some] <;> rfl) | (simp [*, errW_none, errW_some] <;> rfl), by (with_reducible repeat (first | apply Kd.N_alloc | apply Kd.N_drewN | apply Kd.N_drew)); exact HO199.out, by repeat (first | (with_reducible first | exact HB.out | apply below_alloc | apply pw_below_drewN | apply below_drew1) | exact HB.out)⟩

end Go.Proofs.Ytbgnjnlecpdfaaa.PFnExactSwitch
