/-
  No cell of these rows narrows 'for every input' (looked for: loops, veiled, ifaces, maps, wideKeys, modest, calm, conditions, laid).
  DERIVED. THE GIVEN ROWS OF THIS SEAT. 6 by the template 'for every input the law returns true; each argument reads behind the call as it read before'; 0 by the template 'total and deterministic' (their statements: YtefbodommaoaiaaTotals.lean).
  GIVEN WITH THE SEED: the statements are not yours to turn. If you find one false, say at which input.
  Laid BY PROGRAM, IN A SANDBOX (cutbox-rows.mjs): the forced cells as the released guide's own fill.sh prints them over the translation 116b77ee24b65a3c… (all of the seat's roots in one cut). By AI agents, Wed Nov 11 2026. No macro, syntax, notation, axiom, sorry.
-/
import Derived.Test.YtefbodommaoaiaaChecked
import GoSem.Claim
import GoSem.ClaimJoined
import GoSem.ClaimMapViews
import Derived.JoinedTies
import Derived.KernelRfl
namespace Go.Proofs.Ytefbodommaoaiaa
/- THE CELL 'sum', in the pinned program and in every row, IS THE sha256 OF THE DUMP (.gsa) THAT YtefbodommaoaiaaProg.lean LOADS. Nothing in Lean hashes anything: it is a label: what it is worth is what the hold of that sum in a sandbox is worth. -/
noncomputable def Try.pinned : Pinned := { name := "ytefbodommaoaiaa", sum := "116b77ee24b65a3c00dc44b55277a97fd0fd85e62b2a8980c4939472a306f491", checked := Try.checked }
namespace Rows
def none {H : Type} : Left H := { results := [], args := [] }

/-- 'laws.FnExactConstants': WHATEVER THE INPUT: true; the input reads as it did. -/
def fnExactConstantsSpec : ChangeSpec := { name := "fnExactConstants", fn := fun _ => fun
  | [] => { results := [.lit (.bool true)], args := [] }
  | _ => none }
def fnExactConstantsRow : OpenClaim := { program := "ytefbodommaoaiaa", sum := "116b77ee24b65a3c00dc44b55277a97fd0fd85e62b2a8980c4939472a306f491", func := "loop.example/g00023/laws.FnExactConstants", spec := "fnExactConstants", apart := false }
def FnExactConstantsSaid : Prop := fnExactConstantsRow.holds Try.pinned (OpenSpec.ofChange fnExactConstantsSpec)

/-- ITS FALSE NEIGHBOUR: 'it returns false'. Refute it at one input. -/
def fnExactConstantsWrong : ChangeSpec := { name := "fnExactConstants", fn := fun _ => fun
  | [] => { results := [.lit (.bool false)], args := [] }
  | _ => none }
def FnExactConstantsWrongFalsely : Prop := fnExactConstantsRow.holds Try.pinned (OpenSpec.ofChange fnExactConstantsWrong)

/-- 'laws.FnExactWord32': WHATEVER THE INPUT: true; the input reads as it did. -/
def fnExactWord32Spec : ChangeSpec := { name := "fnExactWord32", fn := fun _ => fun
  | [d] => { results := [.lit (.bool true)], args := [d] }
  | _ => none }
def fnExactWord32Row : OpenClaim := { program := "ytefbodommaoaiaa", sum := "116b77ee24b65a3c00dc44b55277a97fd0fd85e62b2a8980c4939472a306f491", func := "loop.example/g00023/laws.FnExactWord32", spec := "fnExactWord32", apart := false }
def FnExactWord32Said : Prop := fnExactWord32Row.holds Try.pinned (OpenSpec.ofChange fnExactWord32Spec)

/-- ITS FALSE NEIGHBOUR: 'it returns false'. Refute it at one input. -/
def fnExactWord32Wrong : ChangeSpec := { name := "fnExactWord32", fn := fun _ => fun
  | [d] => { results := [.lit (.bool false)], args := [d] }
  | _ => none }
def FnExactWord32WrongFalsely : Prop := fnExactWord32Row.holds Try.pinned (OpenSpec.ofChange fnExactWord32Wrong)

/-- 'laws.FnExactPrimeOk': WHATEVER THE INPUT: true; the input reads as it did. -/
def fnExactPrimeOkSpec : ChangeSpec := { name := "fnExactPrimeOk", fn := fun _ => fun
  | [d] => { results := [.lit (.bool true)], args := [d] }
  | _ => none }
def fnExactPrimeOkRow : OpenClaim := { program := "ytefbodommaoaiaa", sum := "116b77ee24b65a3c00dc44b55277a97fd0fd85e62b2a8980c4939472a306f491", func := "loop.example/g00023/laws.FnExactPrimeOk", spec := "fnExactPrimeOk", apart := false }
def FnExactPrimeOkSaid : Prop := fnExactPrimeOkRow.holds Try.pinned (OpenSpec.ofChange fnExactPrimeOkSpec)

/-- ITS FALSE NEIGHBOUR: 'it returns false'. Refute it at one input. -/
def fnExactPrimeOkWrong : ChangeSpec := { name := "fnExactPrimeOk", fn := fun _ => fun
  | [d] => { results := [.lit (.bool false)], args := [d] }
  | _ => none }
def FnExactPrimeOkWrongFalsely : Prop := fnExactPrimeOkRow.holds Try.pinned (OpenSpec.ofChange fnExactPrimeOkWrong)

/-- 'laws.FnExactKeyword': WHATEVER THE INPUT: true; the input reads as it did. -/
def fnExactKeywordSpec : ChangeSpec := { name := "fnExactKeyword", fn := fun _ => fun
  | [d] => { results := [.lit (.bool true)], args := [d] }
  | _ => none }
def fnExactKeywordRow : OpenClaim := { program := "ytefbodommaoaiaa", sum := "116b77ee24b65a3c00dc44b55277a97fd0fd85e62b2a8980c4939472a306f491", func := "loop.example/g00023/laws.FnExactKeyword", spec := "fnExactKeyword", apart := false }
def FnExactKeywordSaid : Prop := fnExactKeywordRow.holds Try.pinned (OpenSpec.ofChange fnExactKeywordSpec)

/-- ITS FALSE NEIGHBOUR: 'it returns false'. Refute it at one input. -/
def fnExactKeywordWrong : ChangeSpec := { name := "fnExactKeyword", fn := fun _ => fun
  | [d] => { results := [.lit (.bool false)], args := [d] }
  | _ => none }
def FnExactKeywordWrongFalsely : Prop := fnExactKeywordRow.holds Try.pinned (OpenSpec.ofChange fnExactKeywordWrong)

/-- 'laws.FnExactSum': WHATEVER THE INPUT: true; the input reads as it did. -/
def fnExactSumSpec : ChangeSpec := { name := "fnExactSum", fn := fun _ => fun
  | [d] => { results := [.lit (.bool true)], args := [d] }
  | _ => none }
def fnExactSumRow : OpenClaim := { program := "ytefbodommaoaiaa", sum := "116b77ee24b65a3c00dc44b55277a97fd0fd85e62b2a8980c4939472a306f491", func := "loop.example/g00023/laws.FnExactSum", spec := "fnExactSum", apart := false }
def FnExactSumSaid : Prop := fnExactSumRow.holds Try.pinned (OpenSpec.ofChange fnExactSumSpec)

/-- ITS FALSE NEIGHBOUR: 'it returns false'. Refute it at one input. -/
def fnExactSumWrong : ChangeSpec := { name := "fnExactSum", fn := fun _ => fun
  | [d] => { results := [.lit (.bool false)], args := [d] }
  | _ => none }
def FnExactSumWrongFalsely : Prop := fnExactSumRow.holds Try.pinned (OpenSpec.ofChange fnExactSumWrong)

/-- 'laws.FnExactReadWord32': WHATEVER THE INPUT: true; the input reads as it did. -/
def fnExactReadWord32Spec : ChangeSpec := { name := "fnExactReadWord32", fn := fun _ => fun
  | [d] => { results := [.lit (.bool true)], args := [d] }
  | _ => none }
def fnExactReadWord32Row : OpenClaim := { program := "ytefbodommaoaiaa", sum := "116b77ee24b65a3c00dc44b55277a97fd0fd85e62b2a8980c4939472a306f491", func := "loop.example/g00023/laws.FnExactReadWord32", spec := "fnExactReadWord32", inPlace := ["internal/bytealg.IndexByteString"], apart := false }
def FnExactReadWord32Said : Prop := fnExactReadWord32Row.holds Try.pinned (OpenSpec.ofChange fnExactReadWord32Spec)

/-- ITS FALSE NEIGHBOUR: 'it returns false'. Refute it at one input. -/
def fnExactReadWord32Wrong : ChangeSpec := { name := "fnExactReadWord32", fn := fun _ => fun
  | [d] => { results := [.lit (.bool false)], args := [d] }
  | _ => none }
def FnExactReadWord32WrongFalsely : Prop := fnExactReadWord32Row.holds Try.pinned (OpenSpec.ofChange fnExactReadWord32Wrong)

/- THE SECOND FORM. 'bulk': how many values and letters a reading holds, each counted each time it is reached (what is shared counts as often as it is met; a slice's spare places count too). A statement '..UptoSaid' is the law's where the arguments, and the package variables that the reading takes, are together of bulk at most 1048576: NARROWER than '..Said'. Prove '..Said' where nothing that the law and all that it calls make is longer than what came in: it says more and counts as full. Else prove '..UptoSaid'. A law counts once. -/
mutual
def uptoBulk {H : Type} : DataW H → Nat
  | .lit (.string bytes) => bytes.length + 1
  | .lit _ => 1
  | .nil => 1
  | .ptr d => uptoBulk d + 1
  | .slice elems spare => uptoBulkAll elems + uptoBulkAll spare + 1
  | .agg parts => uptoBulkAll parts + 1
  | .iface _ d => uptoBulk d + 1
  | .map entries => uptoBulkEntries entries + 1
  | .held _ => 1
def uptoBulkAll {H : Type} : List (DataW H) → Nat
  | [] => 0
  | d :: r => uptoBulk d + uptoBulkAll r
def uptoBulkEntries {H : Type} : List (Lit × DataW H) → Nat
  | [] => 0
  | x :: r => uptoBulkEntry x + uptoBulkEntries r
def uptoBulkEntry {H : Type} : Lit × DataW H → Nat
  | (.string bytes, d) => bytes.length + uptoBulk d + 1
  | (_, d) => uptoBulk d + 1
 end
def uptoSmall : (H : Type) → List (DataW H) → Bool := fun _ ds => decide (uptoBulkAll ds ≤ 1048576)
def OpenSpec.upto (s : _root_.Go.ChangeSpec) : _root_.Go.OpenSpec := { _root_.Go.OpenSpec.ofChange s with cond := some uptoSmall }

/-- 'laws.FnExactConstants', WHERE WHAT IT READS IS OF BULK AT MOST 1048576: true; the input reads as it did. -/
def fnExactConstantsUptoRow : OpenClaim := { program := "ytefbodommaoaiaa", sum := "116b77ee24b65a3c00dc44b55277a97fd0fd85e62b2a8980c4939472a306f491", func := "loop.example/g00023/laws.FnExactConstants", spec := "fnExactConstants", apart := false, narrowed := true }
def FnExactConstantsUptoSaid : Prop := fnExactConstantsUptoRow.holds Try.pinned (OpenSpec.upto fnExactConstantsSpec)

/-- 'laws.FnExactWord32', WHERE WHAT IT READS IS OF BULK AT MOST 1048576: true; the input reads as it did. -/
def fnExactWord32UptoRow : OpenClaim := { program := "ytefbodommaoaiaa", sum := "116b77ee24b65a3c00dc44b55277a97fd0fd85e62b2a8980c4939472a306f491", func := "loop.example/g00023/laws.FnExactWord32", spec := "fnExactWord32", apart := false, narrowed := true }
def FnExactWord32UptoSaid : Prop := fnExactWord32UptoRow.holds Try.pinned (OpenSpec.upto fnExactWord32Spec)

/-- 'laws.FnExactPrimeOk', WHERE WHAT IT READS IS OF BULK AT MOST 1048576: true; the input reads as it did. -/
def fnExactPrimeOkUptoRow : OpenClaim := { program := "ytefbodommaoaiaa", sum := "116b77ee24b65a3c00dc44b55277a97fd0fd85e62b2a8980c4939472a306f491", func := "loop.example/g00023/laws.FnExactPrimeOk", spec := "fnExactPrimeOk", apart := false, narrowed := true }
def FnExactPrimeOkUptoSaid : Prop := fnExactPrimeOkUptoRow.holds Try.pinned (OpenSpec.upto fnExactPrimeOkSpec)

/-- 'laws.FnExactKeyword', WHERE WHAT IT READS IS OF BULK AT MOST 1048576: true; the input reads as it did. -/
def fnExactKeywordUptoRow : OpenClaim := { program := "ytefbodommaoaiaa", sum := "116b77ee24b65a3c00dc44b55277a97fd0fd85e62b2a8980c4939472a306f491", func := "loop.example/g00023/laws.FnExactKeyword", spec := "fnExactKeyword", apart := false, narrowed := true }
def FnExactKeywordUptoSaid : Prop := fnExactKeywordUptoRow.holds Try.pinned (OpenSpec.upto fnExactKeywordSpec)

/-- 'laws.FnExactSum', WHERE WHAT IT READS IS OF BULK AT MOST 1048576: true; the input reads as it did. -/
def fnExactSumUptoRow : OpenClaim := { program := "ytefbodommaoaiaa", sum := "116b77ee24b65a3c00dc44b55277a97fd0fd85e62b2a8980c4939472a306f491", func := "loop.example/g00023/laws.FnExactSum", spec := "fnExactSum", apart := false, narrowed := true }
def FnExactSumUptoSaid : Prop := fnExactSumUptoRow.holds Try.pinned (OpenSpec.upto fnExactSumSpec)

/-- 'laws.FnExactReadWord32', WHERE WHAT IT READS IS OF BULK AT MOST 1048576: true; the input reads as it did. -/
def fnExactReadWord32UptoRow : OpenClaim := { program := "ytefbodommaoaiaa", sum := "116b77ee24b65a3c00dc44b55277a97fd0fd85e62b2a8980c4939472a306f491", func := "loop.example/g00023/laws.FnExactReadWord32", spec := "fnExactReadWord32", inPlace := ["internal/bytealg.IndexByteString"], apart := false, narrowed := true }
def FnExactReadWord32UptoSaid : Prop := fnExactReadWord32UptoRow.holds Try.pinned (OpenSpec.upto fnExactReadWord32Spec)

end Rows
end Go.Proofs.Ytefbodommaoaiaa
