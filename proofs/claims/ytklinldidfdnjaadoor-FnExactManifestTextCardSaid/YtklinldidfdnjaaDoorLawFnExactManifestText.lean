-- Laid by a program of this session: a turned copy of the kit's print, with contracts by hand beside.
import Derived.Test.YtklinldidfdnjaaDoorRows
import Derived.Test.YtklinldidfdnjaaDoorHOpens
import Derived.Test.YtklinldidfdnjaaDoorPFnExactManifestTextx7
import Derived.Test.YtklinldidfdnjaaDoorPureFnExactManifestText
import Derived.LaidSub
import Derived.Lib.LaidTab
import Derived.Test.YtklinldidfdnjaaDoorShItoa
import Derived.WalkKit
import Derived.ProofKit
import Derived.OpenShut
import Derived.ShutString
import Derived.ChangeOld
import Derived.Below
import Derived.SizedLaws
import Derived.LaidLaws
import Derived.LaidMore
import Derived.Lay
import Derived.SevenTiedAt
import Derived.Stop.Joined
import Derived.Test.YtklinldidfdnjaaDoorCards
import Derived.Test.YtklinldidfdnjaaDoorTie
namespace Go.Proofs.YtklinldidfdnjaaDoor.fnExactManifestText
open Go.ChangeShapes Go.WideShapes Go.ChangeAt Go.RowKit Go.Proofs.YtklinldidfdnjaaDoorW.PrintWords Go.Proofs.YtklinldidfdnjaaDoorW.PrintLast Go.Proofs.YtklinldidfdnjaaDoor.PFnExactManifestText
open Go.ChangeMaps (open_string shut_string)
set_option linter.unusedVariables false
theorem own : ownKnob Tryd.prog.godebug = none := by kernel_rfl
theorem laidOut : laidOutB Tryd.prog = true := by kernel_rfl
theorem opens0 : Opens Tryd.prog k33 33 (fun x : S33 => (x.f0.size ≤ maxLen ∧ x.f1.size ≤ maxLen ∧ (Lit.int .i64 x.f2).wf = true ∧ (x.f3.length ≤ maxLen ∧ ∀ y0 ∈ x.f3, y0.size ≤ maxLen) ∧ x.f4.size ≤ maxLen ∧ (Lit.int .u64 x.f5).wf = true)) := (opens_struct (fun x_ : S33 => (x_.f0, x_.f1, x_.f2, x_.f3, x_.f4, x_.f5)) (fun y_ => ⟨y_.1, y_.2.1, y_.2.2.1, y_.2.2.2.1, y_.2.2.2.2.1, y_.2.2.2.2.2⟩) (fun _ => rfl) Tryd.underlying33 (by kernel_rfl) (opens_more rfl (by kernel_rfl) (opens_string Tryd.underlying9) (opens_more rfl (by kernel_rfl) (opens_string Tryd.underlying9) (opens_more rfl (by kernel_rfl) (opens_int Tryd.underlying2) (opens_more rfl (by kernel_rfl) (opens_slice Tryd.underlying31 (by kernel_rfl) (opens_string Tryd.underlying9)) (opens_more rfl (by kernel_rfl) (opens_string Tryd.underlying9) (opens_last rfl (by kernel_rfl) (opens_int Tryd.underlying22))))))))
set_option maxRecDepth 100000 in
theorem lifted (os : Os) (started : os.Started) (H : Type) (enc : TypeId × Value → H) :
    ReturnsInHanded {} Tryd.checked os 7 .any (fun w args => (Rows.fnExactManifestTextSpec.pre enc Tryd.prog Tryd.f7 Rows.fnExactManifestTextRow.domain false w args ∧ laidMetH Tryd.prog Rows.fnExactManifestTextRow.laid w) ∧ sizedMet enc Tryd.prog Tryd.f7 (OpenSpec.ofChange Rows.fnExactManifestTextSpec) false w args) (Rows.fnExactManifestTextSpec.post enc Tryd.prog Tryd.f7 false true false false) := by
  refine returnsInHanded_of_change_and (C := Tryd.checked) (X := fun w _ => laidMetH Tryd.prog Rows.fnExactManifestTextRow.laid w) (fun _ _ _ hh h => h.of_heap hh) own started (by kernel_rfl) Tryd.func7
    (ChangeSpec.witness_shaped (enc := enc) (C := Tryd.checked) (os := os) (X := fun w _ => laidMetH Tryd.prog Rows.fnExactManifestTextRow.laid w) false (World.laidAll Tryd.prog os Rows.fnExactManifestTextRow.laid) #[.agg #[.string ByteArray.empty, .string ByteArray.empty, .int .i64 0, .slice none 0 0, .string ByteArray.empty, .int .u64 0]] 8 (World.laidAll_os _ _ _)
      (World.shaped_of_ZipB (by kernel_rfl) (by kernel_rfl)) (by kernel_rfl) (by kernel_rfl) (by kernel_rfl)
      (by rw [MakeChecks.laidMetH_plain _ _ _ (by kernel_rfl)]; exact laidMet_laidAll _ (by kernel_rfl) (by kernel_rfl))) ?_
  intro W base args ds gs before hval0 hW hcnd hsz0 hL _
  have hval : ∀ (j : Nat) t v, Tryd.f7.params[j]? = some t → args[j]? = some v → Value.okWide Tryd.prog W .any base t v := hval0
  have hW' := hW
  obtain ⟨p, q, hA0, hV, rfl, hfz, hnd⟩ := hW
  have hA : DataW.TrodAll enc Tryd.prog W 0 (fun _ => true) true Tryd.f7.params.toList args.toList ds p := hA0
  rw [Tryd.params7] at hA hval
  obtain ⟨v0, vs0, d0, ds0, p0, q0, hargs, rfl, rfl, h0, r0⟩ := trodAll_cons hA
  obtain ⟨rfl, rfl, rfl⟩ := trodAll_nil r0
  obtain rfl : args = #[v0] := by cases args; simp_all
  obtain ⟨rfl, rfl⟩ := trodVars_none hV
  have hv0 := (hval 0 33 v0 rfl rfl)
  unfold Value.okWide at hv0
  rw [Tryd.underlying33] at hv0
  obtain ⟨cs0, rfl, _, _⟩ := hv0
  have k0 := h0
  have lt0 : ∀ x ∈ p0, x.block < W.heap.size := by obtain ⟨m, hm⟩ := k0; exact DataW.trod_lt m _ _ _ hm
  obtain ⟨fuel0, hf0⟩ := h0
  obtain ⟨l0, hK0, ok0⟩ := opens0 H enc W 0 _ _ fuel0 _ _ hf0
  obtain ⟨A0_3, c0_3, hcs0, hc0_3, hr0_3⟩ := k33_open hK0
  obtain rfl : cs0 = #[.string l0.f0, .string l0.f1, .int .i64 l0.f2, .slice A0_3 l0.f3.length c0_3, .string l0.f4, .int .u64 l0.f5] := by
    have e_ : (Value.agg cs0).cells.toList = cs0.toList := by simp [Value.cells]
    rw [e_] at hcs0
    exact Array.ext' hcs0
  clear hA0 hval0
  have hL2 : laidMet Tryd.prog Rows.fnExactManifestTextRow.laid W := by rw [← MakeChecks.laidMetH_plain _ _ _ (by kernel_rfl)]; exact hL
  have hL3 := hL2.filter (fun x => x.1 == "internal/strconv.uint64pow10")
  have hTab : Lib.TabIs Tryd.prog W "internal/strconv.uint64pow10" .u64 Lib.pow10Tab := Lib.tabIs_of_head (rest := []) (t := 130) (e := 22) (n := 20) Tryd.laysM173.m17 (by kernel_rfl) Tryd.underlying130 Tryd.underlying22 (by kernel_rfl) (by kernel_rfl) (show laidMet Tryd.prog (("internal/strconv.uint64pow10", Lib.tabData .u64 Lib.pow10Tab) :: []) W from hL3)
  refine (laws_FnExactManifestText.walk Pure.FnExactManifestText l0.f0 l0.f1 l0.f2 _ _ l0.f3 l0.f4 l0.f5 W hTab hr0_3 hc0_3 ok0.1 ok0.2.1 ok0.2.2.1 ok0.2.2.2.1 ok0.2.2.2.2.1 ok0.2.2.2.2.2).mono fun e W' ⟨he, bel⟩ => ?_
  subst he
  exact ⟨_, rfl, _, _, _, [], _, [], hW', trodAll_mk1 (shut_bool Tryd.underlying4 _), (trodAll_cons_mk (Below.trod laidOut (by kernel_rfl) (of_decide_eq_true (by kernel_rfl)) k0 bel lt0) trodAll_mk0), rfl, bel.frame _, fun h => by cases h⟩
theorem over : Rows.fnExactManifestTextRow.holds Tryd.pinned (OpenSpec.ofChange Rows.fnExactManifestTextSpec) :=
  OpenClaim.holds_of_wide 7 Tryd.f7 rfl rfl rfl rfl rfl rfl rfl ⟨rfl, rfl, rfl, rfl, rfl⟩ rfl rfl rfl rfl rfl (by kernel_rfl) Tryd.func7 (by kernel_rfl)
    (of_decide_eq_true (by kernel_rfl)) (by unfold Func.isWrapper; first | (rw [if_pos (by decide +kernel)]; kernel_rfl) | (rw [if_neg (by decide +kernel)]; exact ⟨rfl, rfl⟩))
    (fun os started H enc _ => lifted os started H enc)
theorem card : Rows.FnExactManifestTextCardSaid :=
  Claim7.holds_tied_plain_at .later [] [.data, .data, .data] true (true, "7a6b59a1183b5a456f6372656f68a842b73a0f25411b3e283791f46512b5b219") true over (fun _ h => by cases h) (by kernel_rfl) (fun _ h => by cases h) fnExactManifestText_row_tie rfl ⟨rfl, rfl⟩ (by kernel_rfl) rfl
    (fun f fn hf hfn => by
      obtain rfl : f = 7 := Option.some.inj ((show Tryd.prog.funcNamed Rows.fnExactManifestTextRow.func = some 7 by kernel_rfl).symm.trans hf) |>.symm
      obtain rfl : fn = Tryd.f7 := (Option.some.inj (Tryd.func7.symm.trans hfn)).symm
      exact ⟨by kernel_rfl, fun j t ht => by
        rw [Tryd.params7] at ht
        have hm : t ∈ [33] := by simpa using Array.mem_of_getElem? ht
        have hall : ([33].all fun u => !Tryd.prog.wantsStandIn u) = true := by kernel_rfl
        exact (show Tryd.prog.wantsStandIn t = false by simpa using List.all_eq_true.1 hall t hm)⟩)
    (by kernel_rfl)
end Go.Proofs.YtklinldidfdnjaaDoor.fnExactManifestText
namespace Go.Proofs.YtklinldidfdnjaaDoor
/-- The card, under a short name, for the claim. -/
theorem fnExactManifestText_holds : Rows.FnExactManifestTextCardSaid := fnExactManifestText.card
end Go.Proofs.YtklinldidfdnjaaDoor
