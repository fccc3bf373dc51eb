-- Laid by a program of this session: a turned copy of the kit's print, with contracts by hand beside.
import Derived.Test.YtoipkndeeeolcaaRows
import Derived.Test.YtoipkndeeeolcaaVHOpens
import Derived.Test.YtoipkndeeeolcaaPFnExactHoldsx8
import Derived.Test.YtoipkndeeeolcaaPureFnExactHolds
import Derived.WalkKit
import Derived.ProofKit
import Derived.OpenShut
import Derived.ShutString
import Derived.ChangeOld
import Derived.Below
import Derived.SizedLaws
namespace Go.Proofs.Ytoipkndeeeolcaa.fnExactHolds
open Go.ChangeShapes Go.WideShapes Go.ChangeAt Go.RowKit Go.Proofs.YtoipkndeeeolcaaW.PrintWords Go.Proofs.YtoipkndeeeolcaaW.PrintLast Go.Proofs.Ytoipkndeeeolcaa.PFnExactHolds
open Go.ChangeMaps (open_string shut_string)
set_option linter.unusedVariables false
theorem own : ownKnob Try.prog.godebug = none := by kernel_rfl
theorem laidOut : laidOutB Try.prog = true := by kernel_rfl
theorem opens0 : Opens Try.prog (Kd.slice 43 k43) 22 (fun x : List (S43) => (x.length ≤ maxLen ∧ ∀ y0 ∈ x, ((Lit.int .i64 y0.f0).wf = true ∧ y0.f1.size ≤ maxLen ∧ (Lit.int .i64 y0.f2).wf = true))) := (opens_slice Try.underlying22 (by kernel_rfl) (opens_struct (fun x_ : S43 => (x_.f0, x_.f1, x_.f2)) (fun y_ => ⟨y_.1, y_.2.1, y_.2.2⟩) (fun _ => rfl) Try.underlying43 (by kernel_rfl) (opens_more rfl (by kernel_rfl) (opens_int Try.underlying2) (opens_more rfl (by kernel_rfl) (opens_string Try.underlying9) (opens_last rfl (by kernel_rfl) (opens_int Try.underlying2))))))
theorem opens1 : Opens Try.prog (Kd.slice 9 Kd.string) 29 (fun x : List ByteArray => (x.length ≤ maxLen ∧ ∀ y0 ∈ x, y0.size ≤ maxLen)) := (opens_slice Try.underlying29 (by kernel_rfl) (opens_string Try.underlying9))
set_option maxRecDepth 100000 in
theorem lifted (os : Os) (started : os.Started) (H : Type) (enc : TypeId × Value → H) :
    ReturnsInHanded {} Try.checked os 4 .any (Rows.fnExactHoldsSpec.pre6 enc Try.prog Try.f4 Rows.fnExactHoldsRow.domain false) (Rows.fnExactHoldsSpec.post enc Try.prog Try.f4 false true false false) := by
  refine returnsInHanded_of_change_sized (C := Try.checked) own started (by kernel_rfl) Try.func4
    (ChangeSpec.witness6 (enc := enc) (C := Try.checked) false ⟨#[], #[.slice none 0 0, .slice none 0 0], []⟩ 8 (by kernel_rfl) (by kernel_rfl) (by kernel_rfl) (by kernel_rfl)) ?_
  intro W base args ds gs before hval0 hW hcnd hsz0 _
  have hval : ∀ (j : Nat) t v, Try.f4.params[j]? = some t → args[j]? = some v → Value.okWide Try.prog W .any base t v := hval0
  have hW' := hW
  obtain ⟨p, q, hA0, hV, rfl, hfz, hnd⟩ := hW
  have hA : DataW.TrodAll enc Try.prog W 0 (fun _ => true) true Try.f4.params.toList args.toList ds p := hA0
  rw [Try.params4] at hA hval
  obtain ⟨v0, vs0, d0, ds0, p0, q0, hargs, rfl, rfl, h0, r0⟩ := trodAll_cons hA
  obtain ⟨v1, vs1, d1, ds1, p1, q1, rfl, rfl, rfl, h1, r1⟩ := trodAll_cons r0
  obtain ⟨rfl, rfl, rfl⟩ := trodAll_nil r1
  obtain rfl : args = #[v0, v1] := by cases args; simp_all
  obtain ⟨rfl, rfl⟩ := trodVars_none hV
  obtain ⟨a0, len0, cap0, rfl⟩ := okWide_slice Try.underlying22 (hval 0 22 v0 rfl rfl)
  have k0 := h0
  have lt0 : ∀ x ∈ p0, x.block < W.heap.size := by obtain ⟨m, hm⟩ := k0; exact DataW.trod_lt m _ _ _ hm
  obtain ⟨fuel0, hf0⟩ := h0
  obtain ⟨l0, hK0, ok0⟩ := opens0 H enc W 0 _ _ fuel0 _ _ hf0
  obtain ⟨A0, c0, hcs0, hc0, hr0⟩ := hK0
  simp [Value.cells] at hcs0
  obtain ⟨rfl, rfl, rfl⟩ := hcs0
  obtain ⟨a1, len1, cap1, rfl⟩ := okWide_slice Try.underlying29 (hval 1 29 v1 rfl rfl)
  have k1 := h1
  have lt1 : ∀ x ∈ p1, x.block < W.heap.size := by obtain ⟨m, hm⟩ := k1; exact DataW.trod_lt m _ _ _ hm
  obtain ⟨fuel1, hf1⟩ := h1
  obtain ⟨l1, hK1, ok1⟩ := opens1 H enc W 0 _ _ fuel1 _ _ hf1
  obtain ⟨A1, c1, hcs1, hc1, hr1⟩ := hK1
  simp [Value.cells] at hcs1
  obtain ⟨rfl, rfl, rfl⟩ := hcs1
  clear hA0 hval0
  refine (laws_FnExactHolds.walk Pure.FnExactHolds _ _ l0 _ _ l1 W hr0 hc0 hr1 hc1 ok0 ok1).mono fun e W' ⟨he, bel⟩ => ?_
  subst he
  exact ⟨_, rfl, _, _, _, [], _, [], hW', trodAll_mk1 (shut_bool Try.underlying4 _), (trodAll_cons_mk (Below.trod laidOut (by kernel_rfl) (of_decide_eq_true (by kernel_rfl)) k0 bel lt0) (trodAll_cons_mk (Below.trod laidOut (by kernel_rfl) (of_decide_eq_true (by kernel_rfl)) k1 bel lt1) trodAll_mk0)), rfl, bel.frame _, fun h => by cases h⟩
theorem over : Rows.fnExactHoldsRow.holds Try.pinned (OpenSpec.ofChange Rows.fnExactHoldsSpec) :=
  OpenClaim.holds_of_wide 4 Try.f4 rfl rfl rfl rfl rfl rfl rfl ⟨rfl, rfl, rfl, rfl, rfl⟩ rfl rfl rfl rfl rfl (by kernel_rfl) Try.func4 (by kernel_rfl)
    (of_decide_eq_true (by kernel_rfl)) (by unfold Func.isWrapper; first | (rw [if_pos (by decide +kernel)]; kernel_rfl) | (rw [if_neg (by decide +kernel)]; exact ⟨rfl, rfl⟩))
    (fun os started H enc _ => lifted os started H enc)
theorem proved : Rows.FnExactHoldsSaid := over
end Go.Proofs.Ytoipkndeeeolcaa.fnExactHolds
namespace Go.Proofs.Ytoipkndeeeolcaa
/-- The row, under a short name, for the claim. -/
theorem fnExactHolds_holds : Rows.FnExactHoldsSaid := fnExactHolds.proved
end Go.Proofs.Ytoipkndeeeolcaa
