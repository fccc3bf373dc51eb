/-
  No cell of these rows narrows 'for every input' (looked for: loops, veiled, ifaces, maps, wideKeys, modest, calm, conditions, laid).
  DERIVED. THE GIVEN ROWS OF THIS SEAT. 9 by the template 'for every input the law returns true; each argument reads behind the call as it read before'; 0 by the template 'total and deterministic' (their statements: YtnahkojlamficaaTotals.lean).
  GIVEN WITH THE SEED: the statements are not yours to turn. If you find one false, say at which input.
  Laid BY PROGRAM, IN A SANDBOX (cutbox-rows.mjs): the forced cells as the released guide's own fill.sh prints them over the translation affe01c536bc2dba… (all of the seat's roots in one cut). By AI agents, Wed Nov 11 2026. No macro, syntax, notation, axiom, sorry.
-/
import Derived.Test.YtnahkojlamficaaChecked
import GoSem.Claim
import GoSem.ClaimJoined
import GoSem.ClaimMapViews
import Derived.JoinedTies
import Derived.KernelRfl
namespace Go.Proofs.Ytnahkojlamficaa
/- THE CELL 'sum', in the pinned program and in every row, IS THE sha256 OF THE DUMP (.gsa) THAT YtnahkojlamficaaProg.lean LOADS. Nothing in Lean hashes anything: it is a label: what it is worth is what the hold of that sum in a sandbox is worth. -/
noncomputable def Try.pinned : Pinned := { name := "ytnahkojlamficaa", sum := "affe01c536bc2dba11216e93aff99a5be0c81171cd669fe1aee4e438341ea318", checked := Try.checked }
namespace Rows
def none {H : Type} : Left H := { results := [], args := [] }

/-- 'laws.FnExactUnitsOk': WHATEVER THE INPUT: true; the input reads as it did. -/
def fnExactUnitsOkSpec : ChangeSpec := { name := "fnExactUnitsOk", fn := fun _ => fun
  | [d] => { results := [.lit (.bool true)], args := [d] }
  | _ => none }
def fnExactUnitsOkRow : OpenClaim := { program := "ytnahkojlamficaa", sum := "affe01c536bc2dba11216e93aff99a5be0c81171cd669fe1aee4e438341ea318", func := "loop.example/g00023/laws.FnExactUnitsOk", spec := "fnExactUnitsOk", inPlace := ["internal/bytealg.IndexByteString", "internal/bytealg.IndexString"], named := ["internal/bytealg.MaxLen"], apart := false }
def FnExactUnitsOkSaid : Prop := fnExactUnitsOkRow.holds Try.pinned (OpenSpec.ofChange fnExactUnitsOkSpec)

/-- ITS FALSE NEIGHBOUR: 'it returns false'. Refute it at one input. -/
def fnExactUnitsOkWrong : ChangeSpec := { name := "fnExactUnitsOk", fn := fun _ => fun
  | [d] => { results := [.lit (.bool false)], args := [d] }
  | _ => none }
def FnExactUnitsOkWrongFalsely : Prop := fnExactUnitsOkRow.holds Try.pinned (OpenSpec.ofChange fnExactUnitsOkWrong)

/-- 'laws.FnExactApplyActs': WHATEVER THE INPUT: true; the input reads as it did. -/
def fnExactApplyActsSpec : ChangeSpec := { name := "fnExactApplyActs", fn := fun _ => fun
  | [d1, d2] => { results := [.lit (.bool true)], args := [d1, d2] }
  | _ => none }
def fnExactApplyActsRow : OpenClaim := { program := "ytnahkojlamficaa", sum := "affe01c536bc2dba11216e93aff99a5be0c81171cd669fe1aee4e438341ea318", func := "loop.example/g00023/laws.FnExactApplyActs", spec := "fnExactApplyActs", apart := false }
def FnExactApplyActsSaid : Prop := fnExactApplyActsRow.holds Try.pinned (OpenSpec.ofChange fnExactApplyActsSpec)

/-- ITS FALSE NEIGHBOUR: 'it returns false'. Refute it at one input. -/
def fnExactApplyActsWrong : ChangeSpec := { name := "fnExactApplyActs", fn := fun _ => fun
  | [d1, d2] => { results := [.lit (.bool false)], args := [d1, d2] }
  | _ => none }
def FnExactApplyActsWrongFalsely : Prop := fnExactApplyActsRow.holds Try.pinned (OpenSpec.ofChange fnExactApplyActsWrong)

/-- 'laws.FnExactFailing': WHATEVER THE INPUT: true; the input reads as it did. -/
def fnExactFailingSpec : ChangeSpec := { name := "fnExactFailing", fn := fun _ => fun
  | [d1, d2] => { results := [.lit (.bool true)], args := [d1, d2] }
  | _ => none }
def fnExactFailingRow : OpenClaim := { program := "ytnahkojlamficaa", sum := "affe01c536bc2dba11216e93aff99a5be0c81171cd669fe1aee4e438341ea318", func := "loop.example/g00023/laws.FnExactFailing", spec := "fnExactFailing", inPlace := ["internal/bytealg.IndexByteString", "internal/bytealg.IndexString"], named := ["internal/bytealg.MaxLen"], apart := false }
def FnExactFailingSaid : Prop := fnExactFailingRow.holds Try.pinned (OpenSpec.ofChange fnExactFailingSpec)

/-- ITS FALSE NEIGHBOUR: 'it returns false'. Refute it at one input. -/
def fnExactFailingWrong : ChangeSpec := { name := "fnExactFailing", fn := fun _ => fun
  | [d1, d2] => { results := [.lit (.bool false)], args := [d1, d2] }
  | _ => none }
def FnExactFailingWrongFalsely : Prop := fnExactFailingRow.holds Try.pinned (OpenSpec.ofChange fnExactFailingWrong)

/-- 'laws.FnExactStartOrder': WHATEVER THE INPUT: true; the input reads as it did. -/
def fnExactStartOrderSpec : ChangeSpec := { name := "fnExactStartOrder", fn := fun _ => fun
  | [d] => { results := [.lit (.bool true)], args := [d] }
  | _ => none }
def fnExactStartOrderRow : OpenClaim := { program := "ytnahkojlamficaa", sum := "affe01c536bc2dba11216e93aff99a5be0c81171cd669fe1aee4e438341ea318", func := "loop.example/g00023/laws.FnExactStartOrder", spec := "fnExactStartOrder", inPlace := ["internal/bytealg.IndexByteString", "internal/bytealg.IndexString"], named := ["internal/bytealg.MaxLen"], apart := false }
def FnExactStartOrderSaid : Prop := fnExactStartOrderRow.holds Try.pinned (OpenSpec.ofChange fnExactStartOrderSpec)

/-- ITS FALSE NEIGHBOUR: 'it returns false'. Refute it at one input. -/
def fnExactStartOrderWrong : ChangeSpec := { name := "fnExactStartOrder", fn := fun _ => fun
  | [d] => { results := [.lit (.bool false)], args := [d] }
  | _ => none }
def FnExactStartOrderWrongFalsely : Prop := fnExactStartOrderRow.holds Try.pinned (OpenSpec.ofChange fnExactStartOrderWrong)

/-- 'laws.FnExactCycle': WHATEVER THE INPUT: true; the input reads as it did. -/
def fnExactCycleSpec : ChangeSpec := { name := "fnExactCycle", fn := fun _ => fun
  | [d] => { results := [.lit (.bool true)], args := [d] }
  | _ => none }
def fnExactCycleRow : OpenClaim := { program := "ytnahkojlamficaa", sum := "affe01c536bc2dba11216e93aff99a5be0c81171cd669fe1aee4e438341ea318", func := "loop.example/g00023/laws.FnExactCycle", spec := "fnExactCycle", inPlace := ["internal/bytealg.IndexByteString", "internal/bytealg.IndexString"], named := ["internal/bytealg.MaxLen"], apart := false }
def FnExactCycleSaid : Prop := fnExactCycleRow.holds Try.pinned (OpenSpec.ofChange fnExactCycleSpec)

/-- ITS FALSE NEIGHBOUR: 'it returns false'. Refute it at one input. -/
def fnExactCycleWrong : ChangeSpec := { name := "fnExactCycle", fn := fun _ => fun
  | [d] => { results := [.lit (.bool false)], args := [d] }
  | _ => none }
def FnExactCycleWrongFalsely : Prop := fnExactCycleRow.holds Try.pinned (OpenSpec.ofChange fnExactCycleWrong)

/-- 'laws.FnExactPlanUnits': WHATEVER THE INPUT: true; the input reads as it did. -/
def fnExactPlanUnitsSpec : ChangeSpec := { name := "fnExactPlanUnits", fn := fun _ => fun
  | [d1, d2, d3] => { results := [.lit (.bool true)], args := [d1, d2, d3] }
  | _ => none }
def fnExactPlanUnitsRow : OpenClaim := { program := "ytnahkojlamficaa", sum := "affe01c536bc2dba11216e93aff99a5be0c81171cd669fe1aee4e438341ea318", func := "loop.example/g00023/laws.FnExactPlanUnits", spec := "fnExactPlanUnits", inPlace := ["internal/bytealg.IndexByteString", "internal/bytealg.IndexString"], named := ["internal/bytealg.MaxLen"], apart := false }
def FnExactPlanUnitsSaid : Prop := fnExactPlanUnitsRow.holds Try.pinned (OpenSpec.ofChange fnExactPlanUnitsSpec)

/-- ITS FALSE NEIGHBOUR: 'it returns false'. Refute it at one input. -/
def fnExactPlanUnitsWrong : ChangeSpec := { name := "fnExactPlanUnits", fn := fun _ => fun
  | [d1, d2, d3] => { results := [.lit (.bool false)], args := [d1, d2, d3] }
  | _ => none }
def FnExactPlanUnitsWrongFalsely : Prop := fnExactPlanUnitsRow.holds Try.pinned (OpenSpec.ofChange fnExactPlanUnitsWrong)

/-- 'laws.FnFailing': WHATEVER THE INPUT: true; the input reads as it did. -/
def fnFailingSpec : ChangeSpec := { name := "fnFailing", fn := fun _ => fun
  | [d] => { results := [.lit (.bool true)], args := [d] }
  | _ => none }
def fnFailingRow : OpenClaim := { program := "ytnahkojlamficaa", sum := "affe01c536bc2dba11216e93aff99a5be0c81171cd669fe1aee4e438341ea318", func := "loop.example/g00023/laws.FnFailing", spec := "fnFailing", inPlace := ["internal/bytealg.IndexByteString", "internal/bytealg.IndexString"], named := ["internal/bytealg.MaxLen"], apart := false }
def FnFailingSaid : Prop := fnFailingRow.holds Try.pinned (OpenSpec.ofChange fnFailingSpec)

/-- ITS FALSE NEIGHBOUR: 'it returns false'. Refute it at one input. -/
def fnFailingWrong : ChangeSpec := { name := "fnFailing", fn := fun _ => fun
  | [d] => { results := [.lit (.bool false)], args := [d] }
  | _ => none }
def FnFailingWrongFalsely : Prop := fnFailingRow.holds Try.pinned (OpenSpec.ofChange fnFailingWrong)

/-- 'laws.FnOrderHolds': WHATEVER THE INPUT: true; the input reads as it did. -/
def fnOrderHoldsSpec : ChangeSpec := { name := "fnOrderHolds", fn := fun _ => fun
  | [d] => { results := [.lit (.bool true)], args := [d] }
  | _ => none }
def fnOrderHoldsRow : OpenClaim := { program := "ytnahkojlamficaa", sum := "affe01c536bc2dba11216e93aff99a5be0c81171cd669fe1aee4e438341ea318", func := "loop.example/g00023/laws.FnOrderHolds", spec := "fnOrderHolds", inPlace := ["internal/bytealg.IndexByteString", "internal/bytealg.IndexString"], named := ["internal/bytealg.MaxLen"], apart := false }
def FnOrderHoldsSaid : Prop := fnOrderHoldsRow.holds Try.pinned (OpenSpec.ofChange fnOrderHoldsSpec)

/-- ITS FALSE NEIGHBOUR: 'it returns false'. Refute it at one input. -/
def fnOrderHoldsWrong : ChangeSpec := { name := "fnOrderHolds", fn := fun _ => fun
  | [d] => { results := [.lit (.bool false)], args := [d] }
  | _ => none }
def FnOrderHoldsWrongFalsely : Prop := fnOrderHoldsRow.holds Try.pinned (OpenSpec.ofChange fnOrderHoldsWrong)

/-- 'laws.FnPlanReaches': WHATEVER THE INPUT: true; the input reads as it did. -/
def fnPlanReachesSpec : ChangeSpec := { name := "fnPlanReaches", fn := fun _ => fun
  | [d1, d2] => { results := [.lit (.bool true)], args := [d1, d2] }
  | _ => none }
def fnPlanReachesRow : OpenClaim := { program := "ytnahkojlamficaa", sum := "affe01c536bc2dba11216e93aff99a5be0c81171cd669fe1aee4e438341ea318", func := "loop.example/g00023/laws.FnPlanReaches", spec := "fnPlanReaches", inPlace := ["internal/bytealg.IndexByteString", "internal/bytealg.IndexString"], named := ["internal/bytealg.MaxLen"], apart := false }
def FnPlanReachesSaid : Prop := fnPlanReachesRow.holds Try.pinned (OpenSpec.ofChange fnPlanReachesSpec)

/-- ITS FALSE NEIGHBOUR: 'it returns false'. Refute it at one input. -/
def fnPlanReachesWrong : ChangeSpec := { name := "fnPlanReaches", fn := fun _ => fun
  | [d1, d2] => { results := [.lit (.bool false)], args := [d1, d2] }
  | _ => none }
def FnPlanReachesWrongFalsely : Prop := fnPlanReachesRow.holds Try.pinned (OpenSpec.ofChange fnPlanReachesWrong)

/- THE SECOND FORM. 'bulk': how many values and letters a reading holds, each counted each time it is reached (what is shared counts as often as it is met; a slice's spare places count too). A statement '..UptoSaid' is the law's where the arguments, and the package variables that the reading takes, are together of bulk at most 1048576: NARROWER than '..Said'. Prove '..Said' where nothing that the law and all that it calls make is longer than what came in: it says more and counts as full. Else prove '..UptoSaid'. A law counts once. -/
mutual
def uptoBulk {H : Type} : DataW H → Nat
  | .lit (.string bytes) => bytes.length + 1
  | .lit _ => 1
  | .nil => 1
  | .ptr d => uptoBulk d + 1
  | .slice elems spare => uptoBulkAll elems + uptoBulkAll spare + 1
  | .agg parts => uptoBulkAll parts + 1
  | .iface _ d => uptoBulk d + 1
  | .map entries => uptoBulkEntries entries + 1
  | .held _ => 1
def uptoBulkAll {H : Type} : List (DataW H) → Nat
  | [] => 0
  | d :: r => uptoBulk d + uptoBulkAll r
def uptoBulkEntries {H : Type} : List (Lit × DataW H) → Nat
  | [] => 0
  | x :: r => uptoBulkEntry x + uptoBulkEntries r
def uptoBulkEntry {H : Type} : Lit × DataW H → Nat
  | (.string bytes, d) => bytes.length + uptoBulk d + 1
  | (_, d) => uptoBulk d + 1
 end
def uptoSmall : (H : Type) → List (DataW H) → Bool := fun _ ds => decide (uptoBulkAll ds ≤ 1048576)
def OpenSpec.upto (s : _root_.Go.ChangeSpec) : _root_.Go.OpenSpec := { _root_.Go.OpenSpec.ofChange s with cond := some uptoSmall }

/-- 'laws.FnExactUnitsOk', WHERE WHAT IT READS IS OF BULK AT MOST 1048576: true; the input reads as it did. -/
def fnExactUnitsOkUptoRow : OpenClaim := { program := "ytnahkojlamficaa", sum := "affe01c536bc2dba11216e93aff99a5be0c81171cd669fe1aee4e438341ea318", func := "loop.example/g00023/laws.FnExactUnitsOk", spec := "fnExactUnitsOk", inPlace := ["internal/bytealg.IndexByteString", "internal/bytealg.IndexString"], named := ["internal/bytealg.MaxLen"], apart := false, narrowed := true }
def FnExactUnitsOkUptoSaid : Prop := fnExactUnitsOkUptoRow.holds Try.pinned (OpenSpec.upto fnExactUnitsOkSpec)

/-- 'laws.FnExactApplyActs', WHERE WHAT IT READS IS OF BULK AT MOST 1048576: true; the input reads as it did. -/
def fnExactApplyActsUptoRow : OpenClaim := { program := "ytnahkojlamficaa", sum := "affe01c536bc2dba11216e93aff99a5be0c81171cd669fe1aee4e438341ea318", func := "loop.example/g00023/laws.FnExactApplyActs", spec := "fnExactApplyActs", apart := false, narrowed := true }
def FnExactApplyActsUptoSaid : Prop := fnExactApplyActsUptoRow.holds Try.pinned (OpenSpec.upto fnExactApplyActsSpec)

/-- 'laws.FnExactFailing', WHERE WHAT IT READS IS OF BULK AT MOST 1048576: true; the input reads as it did. -/
def fnExactFailingUptoRow : OpenClaim := { program := "ytnahkojlamficaa", sum := "affe01c536bc2dba11216e93aff99a5be0c81171cd669fe1aee4e438341ea318", func := "loop.example/g00023/laws.FnExactFailing", spec := "fnExactFailing", inPlace := ["internal/bytealg.IndexByteString", "internal/bytealg.IndexString"], named := ["internal/bytealg.MaxLen"], apart := false, narrowed := true }
def FnExactFailingUptoSaid : Prop := fnExactFailingUptoRow.holds Try.pinned (OpenSpec.upto fnExactFailingSpec)

/-- 'laws.FnExactStartOrder', WHERE WHAT IT READS IS OF BULK AT MOST 1048576: true; the input reads as it did. -/
def fnExactStartOrderUptoRow : OpenClaim := { program := "ytnahkojlamficaa", sum := "affe01c536bc2dba11216e93aff99a5be0c81171cd669fe1aee4e438341ea318", func := "loop.example/g00023/laws.FnExactStartOrder", spec := "fnExactStartOrder", inPlace := ["internal/bytealg.IndexByteString", "internal/bytealg.IndexString"], named := ["internal/bytealg.MaxLen"], apart := false, narrowed := true }
def FnExactStartOrderUptoSaid : Prop := fnExactStartOrderUptoRow.holds Try.pinned (OpenSpec.upto fnExactStartOrderSpec)

/-- 'laws.FnExactCycle', WHERE WHAT IT READS IS OF BULK AT MOST 1048576: true; the input reads as it did. -/
def fnExactCycleUptoRow : OpenClaim := { program := "ytnahkojlamficaa", sum := "affe01c536bc2dba11216e93aff99a5be0c81171cd669fe1aee4e438341ea318", func := "loop.example/g00023/laws.FnExactCycle", spec := "fnExactCycle", inPlace := ["internal/bytealg.IndexByteString", "internal/bytealg.IndexString"], named := ["internal/bytealg.MaxLen"], apart := false, narrowed := true }
def FnExactCycleUptoSaid : Prop := fnExactCycleUptoRow.holds Try.pinned (OpenSpec.upto fnExactCycleSpec)

/-- 'laws.FnExactPlanUnits', WHERE WHAT IT READS IS OF BULK AT MOST 1048576: true; the input reads as it did. -/
def fnExactPlanUnitsUptoRow : OpenClaim := { program := "ytnahkojlamficaa", sum := "affe01c536bc2dba11216e93aff99a5be0c81171cd669fe1aee4e438341ea318", func := "loop.example/g00023/laws.FnExactPlanUnits", spec := "fnExactPlanUnits", inPlace := ["internal/bytealg.IndexByteString", "internal/bytealg.IndexString"], named := ["internal/bytealg.MaxLen"], apart := false, narrowed := true }
def FnExactPlanUnitsUptoSaid : Prop := fnExactPlanUnitsUptoRow.holds Try.pinned (OpenSpec.upto fnExactPlanUnitsSpec)

/-- 'laws.FnFailing', WHERE WHAT IT READS IS OF BULK AT MOST 1048576: true; the input reads as it did. -/
def fnFailingUptoRow : OpenClaim := { program := "ytnahkojlamficaa", sum := "affe01c536bc2dba11216e93aff99a5be0c81171cd669fe1aee4e438341ea318", func := "loop.example/g00023/laws.FnFailing", spec := "fnFailing", inPlace := ["internal/bytealg.IndexByteString", "internal/bytealg.IndexString"], named := ["internal/bytealg.MaxLen"], apart := false, narrowed := true }
def FnFailingUptoSaid : Prop := fnFailingUptoRow.holds Try.pinned (OpenSpec.upto fnFailingSpec)

/-- 'laws.FnOrderHolds', WHERE WHAT IT READS IS OF BULK AT MOST 1048576: true; the input reads as it did. -/
def fnOrderHoldsUptoRow : OpenClaim := { program := "ytnahkojlamficaa", sum := "affe01c536bc2dba11216e93aff99a5be0c81171cd669fe1aee4e438341ea318", func := "loop.example/g00023/laws.FnOrderHolds", spec := "fnOrderHolds", inPlace := ["internal/bytealg.IndexByteString", "internal/bytealg.IndexString"], named := ["internal/bytealg.MaxLen"], apart := false, narrowed := true }
def FnOrderHoldsUptoSaid : Prop := fnOrderHoldsUptoRow.holds Try.pinned (OpenSpec.upto fnOrderHoldsSpec)

/-- 'laws.FnPlanReaches', WHERE WHAT IT READS IS OF BULK AT MOST 1048576: true; the input reads as it did. -/
def fnPlanReachesUptoRow : OpenClaim := { program := "ytnahkojlamficaa", sum := "affe01c536bc2dba11216e93aff99a5be0c81171cd669fe1aee4e438341ea318", func := "loop.example/g00023/laws.FnPlanReaches", spec := "fnPlanReaches", inPlace := ["internal/bytealg.IndexByteString", "internal/bytealg.IndexString"], named := ["internal/bytealg.MaxLen"], apart := false, narrowed := true }
def FnPlanReachesUptoSaid : Prop := fnPlanReachesUptoRow.holds Try.pinned (OpenSpec.upto fnPlanReachesSpec)

end Rows
end Go.Proofs.Ytnahkojlamficaa
