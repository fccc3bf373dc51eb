-- Laid by a program of this session: a turned copy of the kit's print, with contracts by hand beside.
import Derived.Test.YtklinldidfdnjaaRows
import Derived.Test.YtklinldidfdnjaaVHOpens
import Derived.Test.YtklinldidfdnjaaPFnExactDrvOkx9
import Derived.Test.YtklinldidfdnjaaPureFnExactDrvOk
import Derived.WalkKit
import Derived.ProofKit
import Derived.OpenShut
import Derived.ShutString
import Derived.ChangeOld
import Derived.Below
import Derived.SizedLaws
namespace Go.Proofs.Ytklinldidfdnjaa.fnExactDrvOk
open Go.ChangeShapes Go.WideShapes Go.ChangeAt Go.RowKit Go.Proofs.YtklinldidfdnjaaW.PrintWords Go.Proofs.YtklinldidfdnjaaW.PrintLast Go.Proofs.Ytklinldidfdnjaa.PFnExactDrvOk
open Go.ChangeMaps (open_string shut_string)
set_option linter.unusedVariables false
theorem own : ownKnob Try.prog.godebug = none := by kernel_rfl
theorem laidOut : laidOutB Try.prog = true := by kernel_rfl
theorem opens0 : Opens Try.prog k42 42 (fun x : S42 => (x.f0.size ≤ maxLen ∧ x.f1.size ≤ maxLen ∧ (x.f2.length ≤ maxLen ∧ ∀ y0 ∈ x.f2, y0.size ≤ maxLen) ∧ x.f3.size ≤ maxLen ∧ (x.f4.length ≤ maxLen ∧ ∀ y0 ∈ x.f4, (y0.f0.size ≤ maxLen ∧ y0.f1.size ≤ maxLen)) ∧ (x.f5.length ≤ maxLen ∧ ∀ y0 ∈ x.f5, (y0.f0.size ≤ maxLen ∧ y0.f1.size ≤ maxLen)) ∧ (x.f6.length ≤ maxLen ∧ ∀ y0 ∈ x.f6, y0.size ≤ maxLen))) := (opens_struct (fun x_ : S42 => (x_.f0, x_.f1, x_.f2, x_.f3, x_.f4, x_.f5, x_.f6)) (fun y_ => ⟨y_.1, y_.2.1, y_.2.2.1, y_.2.2.2.1, y_.2.2.2.2.1, y_.2.2.2.2.2.1, y_.2.2.2.2.2.2⟩) (fun _ => rfl) Try.underlying42 (by kernel_rfl) (opens_more rfl (by kernel_rfl) (opens_string Try.underlying9) (opens_more rfl (by kernel_rfl) (opens_string Try.underlying9) (opens_more rfl (by kernel_rfl) (opens_slice Try.underlying38 (by kernel_rfl) (opens_string Try.underlying9)) (opens_more rfl (by kernel_rfl) (opens_string Try.underlying9) (opens_more rfl (by kernel_rfl) (opens_slice Try.underlying39 (by kernel_rfl) (opens_struct (fun x_ : S102 => (x_.f0, x_.f1)) (fun y_ => ⟨y_.1, y_.2⟩) (fun _ => rfl) Try.underlying102 (by kernel_rfl) (opens_more rfl (by kernel_rfl) (opens_string Try.underlying9) (opens_last rfl (by kernel_rfl) (opens_string Try.underlying9))))) (opens_more rfl (by kernel_rfl) (opens_slice Try.underlying40 (by kernel_rfl) (opens_struct (fun x_ : S104 => (x_.f0, x_.f1)) (fun y_ => ⟨y_.1, y_.2⟩) (fun _ => rfl) Try.underlying104 (by kernel_rfl) (opens_more rfl (by kernel_rfl) (opens_string Try.underlying9) (opens_last rfl (by kernel_rfl) (opens_string Try.underlying9))))) (opens_last rfl (by kernel_rfl) (opens_slice Try.underlying38 (by kernel_rfl) (opens_string Try.underlying9))))))))))
set_option maxRecDepth 100000 in
theorem lifted (os : Os) (started : os.Started) (H : Type) (enc : TypeId × Value → H) :
    ReturnsInHanded {} Try.checked os 7 .any (Rows.fnExactDrvOkSpec.pre6 enc Try.prog Try.f7 Rows.fnExactDrvOkRow.domain false) (Rows.fnExactDrvOkSpec.post enc Try.prog Try.f7 false true false false) := by
  refine returnsInHanded_of_change_sized (C := Try.checked) own started (by kernel_rfl) Try.func7
    (ChangeSpec.witness6 (enc := enc) (C := Try.checked) false ⟨#[], #[.agg #[.string ByteArray.empty, .string ByteArray.empty, .slice none 0 0, .string ByteArray.empty, .slice none 0 0, .slice none 0 0, .slice none 0 0]], []⟩ 8 (by kernel_rfl) (by kernel_rfl) (by kernel_rfl) (by kernel_rfl)) ?_
  intro W base args ds gs before hval0 hW hcnd hsz0 _
  have hval : ∀ (j : Nat) t v, Try.f7.params[j]? = some t → args[j]? = some v → Value.okWide Try.prog W .any base t v := hval0
  have hW' := hW
  obtain ⟨p, q, hA0, hV, rfl, hfz, hnd⟩ := hW
  have hA : DataW.TrodAll enc Try.prog W 0 (fun _ => true) true Try.f7.params.toList args.toList ds p := hA0
  rw [Try.params7] at hA hval
  obtain ⟨v0, vs0, d0, ds0, p0, q0, hargs, rfl, rfl, h0, r0⟩ := trodAll_cons hA
  obtain ⟨rfl, rfl, rfl⟩ := trodAll_nil r0
  obtain rfl : args = #[v0] := by cases args; simp_all
  obtain ⟨rfl, rfl⟩ := trodVars_none hV
  have hv0 := (hval 0 42 v0 rfl rfl)
  unfold Value.okWide at hv0
  rw [Try.underlying42] at hv0
  obtain ⟨cs0, rfl, _, _⟩ := hv0
  have k0 := h0
  have lt0 : ∀ x ∈ p0, x.block < W.heap.size := by obtain ⟨m, hm⟩ := k0; exact DataW.trod_lt m _ _ _ hm
  obtain ⟨fuel0, hf0⟩ := h0
  obtain ⟨l0, hK0, ok0⟩ := opens0 H enc W 0 _ _ fuel0 _ _ hf0
  obtain ⟨A0_2, c0_2, A0_4, c0_4, A0_5, c0_5, A0_6, c0_6, hcs0, hc0_2, hr0_2, hc0_4, hr0_4, hc0_5, hr0_5, hc0_6, hr0_6⟩ := k42_open hK0
  obtain rfl : cs0 = #[.string l0.f0, .string l0.f1, .slice A0_2 l0.f2.length c0_2, .string l0.f3, .slice A0_4 l0.f4.length c0_4, .slice A0_5 l0.f5.length c0_5, .slice A0_6 l0.f6.length c0_6] := by
    have e_ : (Value.agg cs0).cells.toList = cs0.toList := by simp [Value.cells]
    rw [e_] at hcs0
    exact Array.ext' hcs0
  clear hA0 hval0
  refine (laws_FnExactDrvOk.walk Pure.FnExactDrvOk l0.f0 l0.f1 _ _ l0.f2 l0.f3 _ _ l0.f4 _ _ l0.f5 _ _ l0.f6 W hr0_2 hc0_2 hr0_4 hc0_4 hr0_5 hc0_5 hr0_6 hc0_6 ok0.1 ok0.2.1 ok0.2.2.1 ok0.2.2.2.1 ok0.2.2.2.2.1 ok0.2.2.2.2.2.1 ok0.2.2.2.2.2.2).mono fun e W' ⟨he, bel⟩ => ?_
  subst he
  exact ⟨_, rfl, _, _, _, [], _, [], hW', trodAll_mk1 (shut_bool Try.underlying4 _), (trodAll_cons_mk (Below.trod laidOut (by kernel_rfl) (of_decide_eq_true (by kernel_rfl)) k0 bel lt0) trodAll_mk0), rfl, bel.frame _, fun h => by cases h⟩
theorem over : Rows.fnExactDrvOkRow.holds Try.pinned (OpenSpec.ofChange Rows.fnExactDrvOkSpec) :=
  OpenClaim.holds_of_wide 7 Try.f7 rfl rfl rfl rfl rfl rfl rfl ⟨rfl, rfl, rfl, rfl, rfl⟩ rfl rfl rfl rfl rfl (by kernel_rfl) Try.func7 (by kernel_rfl)
    (of_decide_eq_true (by kernel_rfl)) (by unfold Func.isWrapper; first | (rw [if_pos (by decide +kernel)]; kernel_rfl) | (rw [if_neg (by decide +kernel)]; exact ⟨rfl, rfl⟩))
    (fun os started H enc _ => lifted os started H enc)
theorem proved : Rows.FnExactDrvOkSaid := over
end Go.Proofs.Ytklinldidfdnjaa.fnExactDrvOk
namespace Go.Proofs.Ytklinldidfdnjaa
/-- The row, under a short name, for the claim. -/
theorem fnExactDrvOk_holds : Rows.FnExactDrvOkSaid := fnExactDrvOk.proved
end Go.Proofs.Ytklinldidfdnjaa
