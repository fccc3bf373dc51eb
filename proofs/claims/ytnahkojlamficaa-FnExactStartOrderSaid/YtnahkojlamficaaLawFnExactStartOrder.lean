-- Laid by a program of this session: a turned copy of the kit's print, with contracts by hand beside.
import Derived.Test.YtnahkojlamficaaRows
import Derived.Test.YtnahkojlamficaaVHOpens
import Derived.Test.YtnahkojlamficaaPFnExactStartOrderx11
import Derived.Test.YtnahkojlamficaaPureFnExactStartOrder
import Derived.WalkKit
import Derived.ProofKit
import Derived.OpenShut
import Derived.ShutString
import Derived.ChangeOld
import Derived.Below
import Derived.SizedLaws
namespace Go.Proofs.Ytnahkojlamficaa.fnExactStartOrder
open Go.ChangeShapes Go.WideShapes Go.ChangeAt Go.RowKit Go.Proofs.YtnahkojlamficaaW.PrintWords Go.Proofs.YtnahkojlamficaaW.PrintLast Go.Proofs.Ytnahkojlamficaa.PFnExactStartOrder
open Go.ChangeMaps (open_string shut_string)
set_option linter.unusedVariables false
theorem own : ownKnob Try.prog.godebug = none := by kernel_rfl
theorem laidOut : laidOutB Try.prog = true := by kernel_rfl
theorem opens0 : Opens Try.prog (Kd.slice 65 k65) 22 (fun x : List (S65) => (x.length ≤ maxLen ∧ ∀ y0 ∈ x, (y0.f0.size ≤ maxLen ∧ (y0.f1.length ≤ maxLen ∧ ∀ y1 ∈ y0.f1, y1.size ≤ maxLen) ∧ (y0.f2.length ≤ maxLen ∧ ∀ y1 ∈ y0.f2, y1.size ≤ maxLen) ∧ y0.f3.size ≤ maxLen ∧ True))) := (opens_slice Try.underlying22 (by kernel_rfl) (opens_struct (fun x_ : S65 => (x_.f0, x_.f1, x_.f2, x_.f3, x_.f4)) (fun y_ => ⟨y_.1, y_.2.1, y_.2.2.1, y_.2.2.2.1, y_.2.2.2.2⟩) (fun _ => rfl) Try.underlying65 (by kernel_rfl) (opens_more rfl (by kernel_rfl) (opens_string Try.underlying9) (opens_more rfl (by kernel_rfl) (opens_slice Try.underlying29 (by kernel_rfl) (opens_string Try.underlying9)) (opens_more rfl (by kernel_rfl) (opens_slice Try.underlying29 (by kernel_rfl) (opens_string Try.underlying9)) (opens_more rfl (by kernel_rfl) (opens_string Try.underlying9) (opens_last rfl (by kernel_rfl) (opens_bool Try.underlying4))))))))
set_option maxRecDepth 100000 in
theorem lifted (os : Os) (started : os.Started) (H : Type) (enc : TypeId × Value → H) :
    ReturnsInHanded {} Try.checked os 6 .any (Rows.fnExactStartOrderSpec.pre6 enc Try.prog Try.f6 Rows.fnExactStartOrderRow.domain false) (Rows.fnExactStartOrderSpec.post enc Try.prog Try.f6 false true false false) := by
  refine returnsInHanded_of_change_sized (C := Try.checked) own started (by kernel_rfl) Try.func6
    (ChangeSpec.witness6 (enc := enc) (C := Try.checked) false ⟨#[], #[.slice none 0 0], []⟩ 8 (by kernel_rfl) (by kernel_rfl) (by kernel_rfl) (by kernel_rfl)) ?_
  intro W base args ds gs before hval0 hW hcnd hsz0 _
  have hval : ∀ (j : Nat) t v, Try.f6.params[j]? = some t → args[j]? = some v → Value.okWide Try.prog W .any base t v := hval0
  have hW' := hW
  obtain ⟨p, q, hA0, hV, rfl, hfz, hnd⟩ := hW
  have hA : DataW.TrodAll enc Try.prog W 0 (fun _ => true) true Try.f6.params.toList args.toList ds p := hA0
  rw [Try.params6] at hA hval
  obtain ⟨v0, vs0, d0, ds0, p0, q0, hargs, rfl, rfl, h0, r0⟩ := trodAll_cons hA
  obtain ⟨rfl, rfl, rfl⟩ := trodAll_nil r0
  obtain rfl : args = #[v0] := by cases args; simp_all
  obtain ⟨rfl, rfl⟩ := trodVars_none hV
  obtain ⟨a0, len0, cap0, rfl⟩ := okWide_slice Try.underlying22 (hval 0 22 v0 rfl rfl)
  have k0 := h0
  have lt0 : ∀ x ∈ p0, x.block < W.heap.size := by obtain ⟨m, hm⟩ := k0; exact DataW.trod_lt m _ _ _ hm
  obtain ⟨fuel0, hf0⟩ := h0
  obtain ⟨l0, hK0, ok0⟩ := opens0 H enc W 0 _ _ fuel0 _ _ hf0
  obtain ⟨A0, c0, hcs0, hc0, hr0⟩ := hK0
  simp [Value.cells] at hcs0
  obtain ⟨rfl, rfl, rfl⟩ := hcs0
  clear hA0 hval0
  refine (laws_FnExactStartOrder.walk Pure.FnExactStartOrder _ _ l0 W hr0 hc0 ok0).mono fun e W' ⟨he, bel⟩ => ?_
  subst he
  exact ⟨_, rfl, _, _, _, [], _, [], hW', trodAll_mk1 (shut_bool Try.underlying4 _), (trodAll_cons_mk (Below.trod laidOut (by kernel_rfl) (of_decide_eq_true (by kernel_rfl)) k0 bel lt0) trodAll_mk0), rfl, bel.frame _, fun h => by cases h⟩
theorem over : Rows.fnExactStartOrderRow.holds Try.pinned (OpenSpec.ofChange Rows.fnExactStartOrderSpec) :=
  OpenClaim.holds_of_wide 6 Try.f6 rfl rfl rfl rfl rfl rfl rfl ⟨rfl, rfl, rfl, rfl, rfl⟩ rfl rfl rfl rfl rfl (by kernel_rfl) Try.func6 (by kernel_rfl)
    (of_decide_eq_true (by kernel_rfl)) (by unfold Func.isWrapper; first | (rw [if_pos (by decide +kernel)]; kernel_rfl) | (rw [if_neg (by decide +kernel)]; exact ⟨rfl, rfl⟩))
    (fun os started H enc _ => lifted os started H enc)
theorem proved : Rows.FnExactStartOrderSaid := over
end Go.Proofs.Ytnahkojlamficaa.fnExactStartOrder
namespace Go.Proofs.Ytnahkojlamficaa
/-- The row, under a short name, for the claim. -/
theorem fnExactStartOrder_holds : Rows.FnExactStartOrderSaid := fnExactStartOrder.proved
end Go.Proofs.Ytnahkojlamficaa
