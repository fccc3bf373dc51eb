-- Laid by a program of this session: a turned copy of the kit's print, with contracts by hand beside.
import Derived.Test.YtkijlpiiiejjkaaRows
import Derived.Test.YtkijlpiiiejjkaaHOpens
import Derived.Test.YtkijlpiiiejjkaaPFnExactSignx3
import Derived.Test.YtkijlpiiiejjkaaPureFnExactSign
import Derived.WalkKit
import Derived.ProofKit
import Derived.OpenShut
import Derived.ShutString
import Derived.ChangeOld
import Derived.Below
import Derived.SizedLaws
namespace Go.Proofs.Ytkijlpiiiejjkaa.fnExactSign
open Go.ChangeShapes Go.WideShapes Go.ChangeAt Go.RowKit Go.Proofs.YtkijlpiiiejjkaaW.PrintWords Go.Proofs.YtkijlpiiiejjkaaW.PrintLast Go.Proofs.Ytkijlpiiiejjkaa.PFnExactSign
open Go.ChangeMaps (open_string shut_string)
set_option linter.unusedVariables false
theorem own : ownKnob Try.prog.godebug = none := by kernel_rfl
theorem laidOut : laidOutB Try.prog = true := by kernel_rfl
theorem opens0 : Opens Try.prog k52 52 (fun x : S52 => ((Lit.int .u64 x.f0).wf = true ∧ (Lit.int .u64 x.f1).wf = true ∧ (Lit.int .u64 x.f2).wf = true)) := (opens_struct (fun x_ : S52 => (x_.f0, x_.f1, x_.f2)) (fun y_ => ⟨y_.1, y_.2.1, y_.2.2⟩) (fun _ => rfl) Try.underlying52 (by kernel_rfl) (opens_more rfl (by kernel_rfl) (opens_int Try.underlying44) (opens_more rfl (by kernel_rfl) (opens_int Try.underlying44) (opens_last rfl (by kernel_rfl) (opens_int Try.underlying44)))))
theorem opens1 : Opens Try.prog (Kd.slice 5 (Kd.int .u8)) 22 (fun x : List Int => (x.length ≤ maxLen ∧ ∀ y0 ∈ x, (Lit.int .u8 y0).wf = true)) := (opens_slice Try.underlying22 (by kernel_rfl) (opens_int Try.underlying5))
set_option maxRecDepth 100000 in
theorem lifted (os : Os) (started : os.Started) (H : Type) (enc : TypeId × Value → H) :
    ReturnsInHanded {} Try.checked os 11 .any (Rows.fnExactSignSpec.pre6 enc Try.prog Try.f11 Rows.fnExactSignRow.domain false) (Rows.fnExactSignSpec.post enc Try.prog Try.f11 false true false false) := by
  refine returnsInHanded_of_change_sized (C := Try.checked) own started (by kernel_rfl) Try.func11
    (ChangeSpec.witness6 (enc := enc) (C := Try.checked) false ⟨#[], #[.agg #[.int .u64 0, .int .u64 0, .int .u64 0], .slice none 0 0], []⟩ 8 (by kernel_rfl) (by kernel_rfl) (by kernel_rfl) (by kernel_rfl)) ?_
  intro W base args ds gs before hval0 hW hcnd hsz0 _
  have hval : ∀ (j : Nat) t v, Try.f11.params[j]? = some t → args[j]? = some v → Value.okWide Try.prog W .any base t v := hval0
  have hW' := hW
  obtain ⟨p, q, hA0, hV, rfl, hfz, hnd⟩ := hW
  have hA : DataW.TrodAll enc Try.prog W 0 (fun _ => true) true Try.f11.params.toList args.toList ds p := hA0
  rw [Try.params11] at hA hval
  obtain ⟨v0, vs0, d0, ds0, p0, q0, hargs, rfl, rfl, h0, r0⟩ := trodAll_cons hA
  obtain ⟨v1, vs1, d1, ds1, p1, q1, rfl, rfl, rfl, h1, r1⟩ := trodAll_cons r0
  obtain ⟨rfl, rfl, rfl⟩ := trodAll_nil r1
  obtain rfl : args = #[v0, v1] := by cases args; simp_all
  obtain ⟨rfl, rfl⟩ := trodVars_none hV
  have hv0 := (hval 0 52 v0 rfl rfl)
  unfold Value.okWide at hv0
  rw [Try.underlying52] at hv0
  obtain ⟨cs0, rfl, _, _⟩ := hv0
  have k0 := h0
  have lt0 : ∀ x ∈ p0, x.block < W.heap.size := by obtain ⟨m, hm⟩ := k0; exact DataW.trod_lt m _ _ _ hm
  obtain ⟨fuel0, hf0⟩ := h0
  obtain ⟨l0, hK0, ok0⟩ := opens0 H enc W 0 _ _ fuel0 _ _ hf0
  have hcs0 := k52_open hK0
  obtain rfl : cs0 = #[.int .u64 l0.f0, .int .u64 l0.f1, .int .u64 l0.f2] := by
    have e_ : (Value.agg cs0).cells.toList = cs0.toList := by simp [Value.cells]
    rw [e_] at hcs0
    exact Array.ext' hcs0
  obtain ⟨a1, len1, cap1, rfl⟩ := okWide_slice Try.underlying22 (hval 1 22 v1 rfl rfl)
  have k1 := h1
  have lt1 : ∀ x ∈ p1, x.block < W.heap.size := by obtain ⟨m, hm⟩ := k1; exact DataW.trod_lt m _ _ _ hm
  obtain ⟨fuel1, hf1⟩ := h1
  obtain ⟨l1, hK1, ok1⟩ := opens1 H enc W 0 _ _ fuel1 _ _ hf1
  obtain ⟨A1, c1, hcs1, hc1, hr1⟩ := hK1
  simp [Value.cells] at hcs1
  obtain ⟨rfl, rfl, rfl⟩ := hcs1
  clear hA0 hval0
  refine (laws_FnExactSign.walk Pure.FnExactSign l0.f0 l0.f1 l0.f2 _ _ l1 W hr1 hc1 ok0.1 ok0.2.1 ok0.2.2 ok1).mono fun e W' ⟨he, bel⟩ => ?_
  subst he
  exact ⟨_, rfl, _, _, _, [], _, [], hW', trodAll_mk1 (shut_bool Try.underlying4 _), (trodAll_cons_mk (Below.trod laidOut (by kernel_rfl) (of_decide_eq_true (by kernel_rfl)) k0 bel lt0) (trodAll_cons_mk (Below.trod laidOut (by kernel_rfl) (of_decide_eq_true (by kernel_rfl)) k1 bel lt1) trodAll_mk0)), rfl, bel.frame _, fun h => by cases h⟩
theorem over : Rows.fnExactSignRow.holds Try.pinned (OpenSpec.ofChange Rows.fnExactSignSpec) :=
  OpenClaim.holds_of_wide 11 Try.f11 rfl rfl rfl rfl rfl rfl rfl ⟨rfl, rfl, rfl, rfl, rfl⟩ rfl rfl rfl rfl rfl (by kernel_rfl) Try.func11 (by kernel_rfl)
    (of_decide_eq_true (by kernel_rfl)) (by unfold Func.isWrapper; first | (rw [if_pos (by decide +kernel)]; kernel_rfl) | (rw [if_neg (by decide +kernel)]; exact ⟨rfl, rfl⟩))
    (fun os started H enc _ => lifted os started H enc)
theorem proved : Rows.FnExactSignSaid := over
end Go.Proofs.Ytkijlpiiiejjkaa.fnExactSign
namespace Go.Proofs.Ytkijlpiiiejjkaa
/-- The row, under a short name, for the claim. -/
theorem fnExactSign_holds : Rows.FnExactSignSaid := fnExactSign.proved
end Go.Proofs.Ytkijlpiiiejjkaa
