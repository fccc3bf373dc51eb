-- Laid by a program of this session: a turned copy of the kit's print, with contracts by hand beside.
import Derived.Test.YtbgnjnlecpdfaaaRows
import Derived.Test.YtbgnjnlecpdfaaaVHOpens
import Derived.Test.YtbgnjnlecpdfaaaPFnExactSwitchx13
import Derived.Test.YtbgnjnlecpdfaaaPureFnExactSwitch
import Derived.WalkKit
import Derived.ProofKit
import Derived.OpenShut
import Derived.ShutString
import Derived.ChangeOld
import Derived.Below
import Derived.SizedLaws
namespace Go.Proofs.Ytbgnjnlecpdfaaa.fnExactSwitch
open Go.ChangeShapes Go.WideShapes Go.ChangeAt Go.RowKit Go.Proofs.YtbgnjnlecpdfaaaW.PrintWords Go.Proofs.YtbgnjnlecpdfaaaW.PrintLast Go.Proofs.Ytbgnjnlecpdfaaa.PFnExactSwitch
open Go.ChangeMaps (open_string shut_string)
set_option linter.unusedVariables false
theorem own : ownKnob Try.prog.godebug = none := by kernel_rfl
theorem laidOut : laidOutB Try.prog = true := by kernel_rfl
theorem opens0 : Opens Try.prog (Kd.slice 49 k49) 22 (fun x : List (S49) => (x.length ≤ maxLen ∧ ∀ y0 ∈ x, (y0.f0.size ≤ maxLen ∧ (Lit.int .i64 y0.f1).wf = true ∧ (y0.f2.length ≤ maxLen ∧ ∀ y1 ∈ y0.f2, ((Lit.int .i64 y1.f0).wf = true ∧ y1.f1.size ≤ maxLen))))) := (opens_slice Try.underlying22 (by kernel_rfl) (opens_struct (fun x_ : S49 => (x_.f0, x_.f1, x_.f2)) (fun y_ => ⟨y_.1, y_.2.1, y_.2.2⟩) (fun _ => rfl) Try.underlying49 (by kernel_rfl) (opens_more rfl (by kernel_rfl) (opens_string Try.underlying9) (opens_more rfl (by kernel_rfl) (opens_int Try.underlying2) (opens_last rfl (by kernel_rfl) (opens_slice Try.underlying47 (by kernel_rfl) (opens_struct (fun x_ : S87 => (x_.f0, x_.f1)) (fun y_ => ⟨y_.1, y_.2⟩) (fun _ => rfl) Try.underlying87 (by kernel_rfl) (opens_more rfl (by kernel_rfl) (opens_int Try.underlying2) (opens_last rfl (by kernel_rfl) (opens_string Try.underlying9))))))))))
set_option maxRecDepth 100000 in
theorem lifted (os : Os) (started : os.Started) (H : Type) (enc : TypeId × Value → H) :
    ReturnsInHanded {} Try.checked os 7 .any (Rows.fnExactSwitchSpec.pre6 enc Try.prog Try.f7 Rows.fnExactSwitchRow.domain false) (Rows.fnExactSwitchSpec.post enc Try.prog Try.f7 false true false false) := by
  refine returnsInHanded_of_change_sized (C := Try.checked) own started (by kernel_rfl) Try.func7
    (ChangeSpec.witness6 (enc := enc) (C := Try.checked) false ⟨#[], #[.slice none 0 0, .string ByteArray.empty, .string ByteArray.empty], []⟩ 8 (by kernel_rfl) (by kernel_rfl) (by kernel_rfl) (by kernel_rfl)) ?_
  intro W base args ds gs before hval0 hW hcnd hsz0 _
  have hval : ∀ (j : Nat) t v, Try.f7.params[j]? = some t → args[j]? = some v → Value.okWide Try.prog W .any base t v := hval0
  have hW' := hW
  obtain ⟨p, q, hA0, hV, rfl, hfz, hnd⟩ := hW
  have hA : DataW.TrodAll enc Try.prog W 0 (fun _ => true) true Try.f7.params.toList args.toList ds p := hA0
  rw [Try.params7] at hA hval
  obtain ⟨v0, vs0, d0, ds0, p0, q0, hargs, rfl, rfl, h0, r0⟩ := trodAll_cons hA
  obtain ⟨v1, vs1, d1, ds1, p1, q1, rfl, rfl, rfl, h1, r1⟩ := trodAll_cons r0
  obtain ⟨v2, vs2, d2, ds2, p2, q2, rfl, rfl, rfl, h2, r2⟩ := trodAll_cons r1
  obtain ⟨rfl, rfl, rfl⟩ := trodAll_nil r2
  obtain rfl : args = #[v0, v1, v2] := by cases args; simp_all
  obtain ⟨rfl, rfl⟩ := trodVars_none hV
  obtain ⟨a0, len0, cap0, rfl⟩ := okWide_slice Try.underlying22 (hval 0 22 v0 rfl rfl)
  have k0 := h0
  have lt0 : ∀ x ∈ p0, x.block < W.heap.size := by obtain ⟨m, hm⟩ := k0; exact DataW.trod_lt m _ _ _ hm
  obtain ⟨fuel0, hf0⟩ := h0
  obtain ⟨l0, hK0, ok0⟩ := opens0 H enc W 0 _ _ fuel0 _ _ hf0
  obtain ⟨A0, c0, hcs0, hc0, hr0⟩ := hK0
  simp [Value.cells] at hcs0
  obtain ⟨rfl, rfl, rfl⟩ := hcs0
  obtain ⟨a1, rfl, rfl, rfl, y1⟩ := open_string Try.underlying9 (hval 1 9 v1 rfl rfl) h1
  obtain ⟨a2, rfl, rfl, rfl, y2⟩ := open_string Try.underlying9 (hval 2 9 v2 rfl rfl) h2
  clear hA0 hval0
  refine (laws_FnExactSwitch.walk Pure.FnExactSwitch _ _ l0 a1 a2 W hr0 hc0 ok0 y1 y2).mono fun e W' ⟨he, bel⟩ => ?_
  subst he
  exact ⟨_, rfl, _, _, _, [], _, [], hW', trodAll_mk1 (shut_bool Try.underlying4 _), (trodAll_cons_mk (Below.trod laidOut (by kernel_rfl) (of_decide_eq_true (by kernel_rfl)) k0 bel lt0) (trodAll_cons_mk (shut_string Try.underlying9 y1) (trodAll_cons_mk (shut_string Try.underlying9 y2) trodAll_mk0))), rfl, bel.frame _, fun h => by cases h⟩
theorem over : Rows.fnExactSwitchRow.holds Try.pinned (OpenSpec.ofChange Rows.fnExactSwitchSpec) :=
  OpenClaim.holds_of_wide 7 Try.f7 rfl rfl rfl rfl rfl rfl rfl ⟨rfl, rfl, rfl, rfl, rfl⟩ rfl rfl rfl rfl rfl (by kernel_rfl) Try.func7 (by kernel_rfl)
    (of_decide_eq_true (by kernel_rfl)) (by unfold Func.isWrapper; first | (rw [if_pos (by decide +kernel)]; kernel_rfl) | (rw [if_neg (by decide +kernel)]; exact ⟨rfl, rfl⟩))
    (fun os started H enc _ => lifted os started H enc)
theorem proved : Rows.FnExactSwitchSaid := over
end Go.Proofs.Ytbgnjnlecpdfaaa.fnExactSwitch
namespace Go.Proofs.Ytbgnjnlecpdfaaa
/-- The row, under a short name, for the claim. -/
theorem fnExactSwitch_holds : Rows.FnExactSwitchSaid := fnExactSwitch.proved
end Go.Proofs.Ytbgnjnlecpdfaaa
