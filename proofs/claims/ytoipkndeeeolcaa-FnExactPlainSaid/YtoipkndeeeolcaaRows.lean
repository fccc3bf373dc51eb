/-
  No cell of these rows narrows 'for every input' (looked for: loops, veiled, ifaces, maps, wideKeys, modest, calm, conditions, laid).
  DERIVED. THE GIVEN ROWS OF THIS SEAT. 5 by the template 'for every input the law returns true; each argument reads behind the call as it read before'; 0 by the template 'total and deterministic' (their statements: YtoipkndeeeolcaaTotals.lean).
  GIVEN WITH THE SEED: the statements are not yours to turn. If you find one false, say at which input.
  Laid BY PROGRAM, IN A SANDBOX (cutbox-rows.mjs): the forced cells as the released guide's own fill.sh prints them over the translation e1fe5854e2f5e142… (all of the seat's roots in one cut). By AI agents, Wed Nov 11 2026. No macro, syntax, notation, axiom, sorry.
-/
import Derived.Test.YtoipkndeeeolcaaChecked
import GoSem.Claim
import GoSem.ClaimJoined
import GoSem.ClaimMapViews
import Derived.JoinedTies
import Derived.KernelRfl
namespace Go.Proofs.Ytoipkndeeeolcaa
/- THE CELL 'sum', in the pinned program and in every row, IS THE sha256 OF THE DUMP (.gsa) THAT YtoipkndeeeolcaaProg.lean LOADS. Nothing in Lean hashes anything: it is a label: what it is worth is what the hold of that sum in a sandbox is worth. -/
noncomputable def Try.pinned : Pinned := { name := "ytoipkndeeeolcaa", sum := "e1fe5854e2f5e14253671854ec3bc8b72cec1c463006ec9374ec66622090de6a", checked := Try.checked }
namespace Rows
def none {H : Type} : Left H := { results := [], args := [] }

/-- 'laws.FnExactCondOk': WHATEVER THE INPUT: true; the input reads as it did. -/
def fnExactCondOkSpec : ChangeSpec := { name := "fnExactCondOk", fn := fun _ => fun
  | [d] => { results := [.lit (.bool true)], args := [d] }
  | _ => none }
def fnExactCondOkRow : OpenClaim := { program := "ytoipkndeeeolcaa", sum := "e1fe5854e2f5e14253671854ec3bc8b72cec1c463006ec9374ec66622090de6a", func := "loop.example/g00023/laws.FnExactCondOk", spec := "fnExactCondOk", inPlace := ["internal/bytealg.IndexByteString", "internal/bytealg.IndexString"], unfollowed := true, recurses := true, named := ["internal/bytealg.MaxLen"], apart := false }
def FnExactCondOkSaid : Prop := fnExactCondOkRow.holds Try.pinned (OpenSpec.ofChange fnExactCondOkSpec)

/-- ITS FALSE NEIGHBOUR: 'it returns false'. Refute it at one input. -/
def fnExactCondOkWrong : ChangeSpec := { name := "fnExactCondOk", fn := fun _ => fun
  | [d] => { results := [.lit (.bool false)], args := [d] }
  | _ => none }
def FnExactCondOkWrongFalsely : Prop := fnExactCondOkRow.holds Try.pinned (OpenSpec.ofChange fnExactCondOkWrong)

/-- 'laws.FnExactHolds': WHATEVER THE INPUT: true; the input reads as it did. -/
def fnExactHoldsSpec : ChangeSpec := { name := "fnExactHolds", fn := fun _ => fun
  | [d1, d2] => { results := [.lit (.bool true)], args := [d1, d2] }
  | _ => none }
def fnExactHoldsRow : OpenClaim := { program := "ytoipkndeeeolcaa", sum := "e1fe5854e2f5e14253671854ec3bc8b72cec1c463006ec9374ec66622090de6a", func := "loop.example/g00023/laws.FnExactHolds", spec := "fnExactHolds", inPlace := ["internal/bytealg.IndexByteString", "internal/bytealg.IndexString"], unfollowed := true, recurses := true, named := ["internal/bytealg.MaxLen"], apart := false }
def FnExactHoldsSaid : Prop := fnExactHoldsRow.holds Try.pinned (OpenSpec.ofChange fnExactHoldsSpec)

/-- ITS FALSE NEIGHBOUR: 'it returns false'. Refute it at one input. -/
def fnExactHoldsWrong : ChangeSpec := { name := "fnExactHolds", fn := fun _ => fun
  | [d1, d2] => { results := [.lit (.bool false)], args := [d1, d2] }
  | _ => none }
def FnExactHoldsWrongFalsely : Prop := fnExactHoldsRow.holds Try.pinned (OpenSpec.ofChange fnExactHoldsWrong)

/-- 'laws.FnExactPlain': WHATEVER THE INPUT: true; the input reads as it did. -/
def fnExactPlainSpec : ChangeSpec := { name := "fnExactPlain", fn := fun _ => fun
  | [d] => { results := [.lit (.bool true)], args := [d] }
  | _ => none }
def fnExactPlainRow : OpenClaim := { program := "ytoipkndeeeolcaa", sum := "e1fe5854e2f5e14253671854ec3bc8b72cec1c463006ec9374ec66622090de6a", func := "loop.example/g00023/laws.FnExactPlain", spec := "fnExactPlain", inPlace := ["internal/bytealg.IndexByteString", "internal/bytealg.IndexString"], unfollowed := true, recurses := true, named := ["internal/bytealg.MaxLen"], apart := false }
def FnExactPlainSaid : Prop := fnExactPlainRow.holds Try.pinned (OpenSpec.ofChange fnExactPlainSpec)

/-- ITS FALSE NEIGHBOUR: 'it returns false'. Refute it at one input. -/
def fnExactPlainWrong : ChangeSpec := { name := "fnExactPlain", fn := fun _ => fun
  | [d] => { results := [.lit (.bool false)], args := [d] }
  | _ => none }
def FnExactPlainWrongFalsely : Prop := fnExactPlainRow.holds Try.pinned (OpenSpec.ofChange fnExactPlainWrong)

/-- 'laws.FnExactReadCond': WHATEVER THE INPUT: true; the input reads as it did. -/
def fnExactReadCondSpec : ChangeSpec := { name := "fnExactReadCond", fn := fun _ => fun
  | [d] => { results := [.lit (.bool true)], args := [d] }
  | _ => none }
def fnExactReadCondRow : OpenClaim := { program := "ytoipkndeeeolcaa", sum := "e1fe5854e2f5e14253671854ec3bc8b72cec1c463006ec9374ec66622090de6a", func := "loop.example/g00023/laws.FnExactReadCond", spec := "fnExactReadCond", inPlace := ["internal/bytealg.IndexByteString", "internal/bytealg.IndexString"], unfollowed := true, recurses := true, named := ["internal/bytealg.MaxLen"], apart := false }
def FnExactReadCondSaid : Prop := fnExactReadCondRow.holds Try.pinned (OpenSpec.ofChange fnExactReadCondSpec)

/-- ITS FALSE NEIGHBOUR: 'it returns false'. Refute it at one input. -/
def fnExactReadCondWrong : ChangeSpec := { name := "fnExactReadCond", fn := fun _ => fun
  | [d] => { results := [.lit (.bool false)], args := [d] }
  | _ => none }
def FnExactReadCondWrongFalsely : Prop := fnExactReadCondRow.holds Try.pinned (OpenSpec.ofChange fnExactReadCondWrong)

/-- 'laws.FnExactShowCond': WHATEVER THE INPUT: true; the input reads as it did. -/
def fnExactShowCondSpec : ChangeSpec := { name := "fnExactShowCond", fn := fun _ => fun
  | [d] => { results := [.lit (.bool true)], args := [d] }
  | _ => none }
def fnExactShowCondRow : OpenClaim := { program := "ytoipkndeeeolcaa", sum := "e1fe5854e2f5e14253671854ec3bc8b72cec1c463006ec9374ec66622090de6a", func := "loop.example/g00023/laws.FnExactShowCond", spec := "fnExactShowCond", inPlace := ["internal/bytealg.IndexByteString", "internal/bytealg.IndexString", "internal/abi.NoEscape", "internal/bytealg.MakeNoZero"], unfollowed := true, recurses := true, named := ["internal/bytealg.MaxLen"], apart := false }
def FnExactShowCondSaid : Prop := fnExactShowCondRow.holds Try.pinned (OpenSpec.ofChange fnExactShowCondSpec)

/-- ITS FALSE NEIGHBOUR: 'it returns false'. Refute it at one input. -/
def fnExactShowCondWrong : ChangeSpec := { name := "fnExactShowCond", fn := fun _ => fun
  | [d] => { results := [.lit (.bool false)], args := [d] }
  | _ => none }
def FnExactShowCondWrongFalsely : Prop := fnExactShowCondRow.holds Try.pinned (OpenSpec.ofChange fnExactShowCondWrong)

/- THE SECOND FORM. 'bulk': how many values and letters a reading holds, each counted each time it is reached (what is shared counts as often as it is met; a slice's spare places count too). A statement '..UptoSaid' is the law's where the arguments, and the package variables that the reading takes, are together of bulk at most 1048576: NARROWER than '..Said'. Prove '..Said' where nothing that the law and all that it calls make is longer than what came in: it says more and counts as full. Else prove '..UptoSaid'. A law counts once. -/
mutual
def uptoBulk {H : Type} : DataW H → Nat
  | .lit (.string bytes) => bytes.length + 1
  | .lit _ => 1
  | .nil => 1
  | .ptr d => uptoBulk d + 1
  | .slice elems spare => uptoBulkAll elems + uptoBulkAll spare + 1
  | .agg parts => uptoBulkAll parts + 1
  | .iface _ d => uptoBulk d + 1
  | .map entries => uptoBulkEntries entries + 1
  | .held _ => 1
def uptoBulkAll {H : Type} : List (DataW H) → Nat
  | [] => 0
  | d :: r => uptoBulk d + uptoBulkAll r
def uptoBulkEntries {H : Type} : List (Lit × DataW H) → Nat
  | [] => 0
  | x :: r => uptoBulkEntry x + uptoBulkEntries r
def uptoBulkEntry {H : Type} : Lit × DataW H → Nat
  | (.string bytes, d) => bytes.length + uptoBulk d + 1
  | (_, d) => uptoBulk d + 1
 end
def uptoSmall : (H : Type) → List (DataW H) → Bool := fun _ ds => decide (uptoBulkAll ds ≤ 1048576)
def OpenSpec.upto (s : _root_.Go.ChangeSpec) : _root_.Go.OpenSpec := { _root_.Go.OpenSpec.ofChange s with cond := some uptoSmall }

/-- 'laws.FnExactCondOk', WHERE WHAT IT READS IS OF BULK AT MOST 1048576: true; the input reads as it did. -/
def fnExactCondOkUptoRow : OpenClaim := { program := "ytoipkndeeeolcaa", sum := "e1fe5854e2f5e14253671854ec3bc8b72cec1c463006ec9374ec66622090de6a", func := "loop.example/g00023/laws.FnExactCondOk", spec := "fnExactCondOk", inPlace := ["internal/bytealg.IndexByteString", "internal/bytealg.IndexString"], unfollowed := true, recurses := true, named := ["internal/bytealg.MaxLen"], apart := false, narrowed := true }
def FnExactCondOkUptoSaid : Prop := fnExactCondOkUptoRow.holds Try.pinned (OpenSpec.upto fnExactCondOkSpec)

/-- 'laws.FnExactHolds', WHERE WHAT IT READS IS OF BULK AT MOST 1048576: true; the input reads as it did. -/
def fnExactHoldsUptoRow : OpenClaim := { program := "ytoipkndeeeolcaa", sum := "e1fe5854e2f5e14253671854ec3bc8b72cec1c463006ec9374ec66622090de6a", func := "loop.example/g00023/laws.FnExactHolds", spec := "fnExactHolds", inPlace := ["internal/bytealg.IndexByteString", "internal/bytealg.IndexString"], unfollowed := true, recurses := true, named := ["internal/bytealg.MaxLen"], apart := false, narrowed := true }
def FnExactHoldsUptoSaid : Prop := fnExactHoldsUptoRow.holds Try.pinned (OpenSpec.upto fnExactHoldsSpec)

/-- 'laws.FnExactPlain', WHERE WHAT IT READS IS OF BULK AT MOST 1048576: true; the input reads as it did. -/
def fnExactPlainUptoRow : OpenClaim := { program := "ytoipkndeeeolcaa", sum := "e1fe5854e2f5e14253671854ec3bc8b72cec1c463006ec9374ec66622090de6a", func := "loop.example/g00023/laws.FnExactPlain", spec := "fnExactPlain", inPlace := ["internal/bytealg.IndexByteString", "internal/bytealg.IndexString"], unfollowed := true, recurses := true, named := ["internal/bytealg.MaxLen"], apart := false, narrowed := true }
def FnExactPlainUptoSaid : Prop := fnExactPlainUptoRow.holds Try.pinned (OpenSpec.upto fnExactPlainSpec)

/-- 'laws.FnExactReadCond', WHERE WHAT IT READS IS OF BULK AT MOST 1048576: true; the input reads as it did. -/
def fnExactReadCondUptoRow : OpenClaim := { program := "ytoipkndeeeolcaa", sum := "e1fe5854e2f5e14253671854ec3bc8b72cec1c463006ec9374ec66622090de6a", func := "loop.example/g00023/laws.FnExactReadCond", spec := "fnExactReadCond", inPlace := ["internal/bytealg.IndexByteString", "internal/bytealg.IndexString"], unfollowed := true, recurses := true, named := ["internal/bytealg.MaxLen"], apart := false, narrowed := true }
def FnExactReadCondUptoSaid : Prop := fnExactReadCondUptoRow.holds Try.pinned (OpenSpec.upto fnExactReadCondSpec)

/-- 'laws.FnExactShowCond', WHERE WHAT IT READS IS OF BULK AT MOST 1048576: true; the input reads as it did. -/
def fnExactShowCondUptoRow : OpenClaim := { program := "ytoipkndeeeolcaa", sum := "e1fe5854e2f5e14253671854ec3bc8b72cec1c463006ec9374ec66622090de6a", func := "loop.example/g00023/laws.FnExactShowCond", spec := "fnExactShowCond", inPlace := ["internal/bytealg.IndexByteString", "internal/bytealg.IndexString", "internal/abi.NoEscape", "internal/bytealg.MakeNoZero"], unfollowed := true, recurses := true, named := ["internal/bytealg.MaxLen"], apart := false, narrowed := true }
def FnExactShowCondUptoSaid : Prop := fnExactShowCondUptoRow.holds Try.pinned (OpenSpec.upto fnExactShowCondSpec)

end Rows
end Go.Proofs.Ytoipkndeeeolcaa
