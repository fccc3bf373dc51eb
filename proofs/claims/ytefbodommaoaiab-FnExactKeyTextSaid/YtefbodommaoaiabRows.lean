/-
  No cell of these rows narrows 'for every input' (looked for: loops, veiled, ifaces, maps, wideKeys, modest, calm, conditions, laid).
  DERIVED. THE GIVEN ROWS OF THIS SEAT. 5 by the template 'for every input the law returns true; each argument reads behind the call as it read before'; 0 by the template 'total and deterministic' (their statements: YtefbodommaoaiabTotals.lean).
  GIVEN WITH THE SEED: the statements are not yours to turn. If you find one false, say at which input.
  Laid BY PROGRAM, IN A SANDBOX (cutbox-rows.mjs): the forced cells as the released guide's own fill.sh prints them over the translation d77ef2f8d8ba1ed0… (all of the seat's roots in one cut). By AI agents, Wed Nov 11 2026. No macro, syntax, notation, axiom, sorry.
-/
import Derived.Test.YtefbodommaoaiabChecked
import GoSem.Claim
import GoSem.ClaimJoined
import GoSem.ClaimMapViews
import Derived.JoinedTies
import Derived.KernelRfl
namespace Go.Proofs.Ytefbodommaoaiab
/- THE CELL 'sum', in the pinned program and in every row, IS THE sha256 OF THE DUMP (.gsa) THAT YtefbodommaoaiabProg.lean LOADS. Nothing in Lean hashes anything: it is a label: what it is worth is what the hold of that sum in a sandbox is worth. -/
noncomputable def Try.pinned : Pinned := { name := "ytefbodommaoaiab", sum := "d77ef2f8d8ba1ed046f21ca64c8d5048e01332c4d40582fdebbe3ff099c91f1a", checked := Try.checked }
namespace Rows
def none {H : Type} : Left H := { results := [], args := [] }

/-- 'laws.FnExactClash': WHATEVER THE INPUT: true; the input reads as it did. -/
def fnExactClashSpec : ChangeSpec := { name := "fnExactClash", fn := fun _ => fun
  | [d] => { results := [.lit (.bool true)], args := [d] }
  | _ => none }
def fnExactClashRow : OpenClaim := { program := "ytefbodommaoaiab", sum := "d77ef2f8d8ba1ed046f21ca64c8d5048e01332c4d40582fdebbe3ff099c91f1a", func := "loop.example/g00023/laws.FnExactClash", spec := "fnExactClash", apart := false }
def FnExactClashSaid : Prop := fnExactClashRow.holds Try.pinned (OpenSpec.ofChange fnExactClashSpec)

/-- ITS FALSE NEIGHBOUR: 'it returns false'. Refute it at one input. -/
def fnExactClashWrong : ChangeSpec := { name := "fnExactClash", fn := fun _ => fun
  | [d] => { results := [.lit (.bool false)], args := [d] }
  | _ => none }
def FnExactClashWrongFalsely : Prop := fnExactClashRow.holds Try.pinned (OpenSpec.ofChange fnExactClashWrong)

/-- 'laws.FnExactNameOk': WHATEVER THE INPUT: true; the input reads as it did. -/
def fnExactNameOkSpec : ChangeSpec := { name := "fnExactNameOk", fn := fun _ => fun
  | [d] => { results := [.lit (.bool true)], args := [d] }
  | _ => none }
def fnExactNameOkRow : OpenClaim := { program := "ytefbodommaoaiab", sum := "d77ef2f8d8ba1ed046f21ca64c8d5048e01332c4d40582fdebbe3ff099c91f1a", func := "loop.example/g00023/laws.FnExactNameOk", spec := "fnExactNameOk", inPlace := ["internal/bytealg.IndexByteString", "internal/bytealg.IndexString"], named := ["internal/bytealg.MaxLen"], apart := false }
def FnExactNameOkSaid : Prop := fnExactNameOkRow.holds Try.pinned (OpenSpec.ofChange fnExactNameOkSpec)

/-- ITS FALSE NEIGHBOUR: 'it returns false'. Refute it at one input. -/
def fnExactNameOkWrong : ChangeSpec := { name := "fnExactNameOk", fn := fun _ => fun
  | [d] => { results := [.lit (.bool false)], args := [d] }
  | _ => none }
def FnExactNameOkWrongFalsely : Prop := fnExactNameOkRow.holds Try.pinned (OpenSpec.ofChange fnExactNameOkWrong)

/-- 'laws.FnExactPowMod': WHATEVER THE INPUT: true; the input reads as it did. -/
def fnExactPowModSpec : ChangeSpec := { name := "fnExactPowMod", fn := fun _ => fun
  | [d1, d2, d3] => { results := [.lit (.bool true)], args := [d1, d2, d3] }
  | _ => none }
def fnExactPowModRow : OpenClaim := { program := "ytefbodommaoaiab", sum := "d77ef2f8d8ba1ed046f21ca64c8d5048e01332c4d40582fdebbe3ff099c91f1a", func := "loop.example/g00023/laws.FnExactPowMod", spec := "fnExactPowMod", unfollowed := true, recurses := true, named := ["math/bits.divideError", "math/bits.overflowError"], apart := false }
def FnExactPowModSaid : Prop := fnExactPowModRow.holds Try.pinned (OpenSpec.ofChange fnExactPowModSpec)

/-- ITS FALSE NEIGHBOUR: 'it returns false'. Refute it at one input. -/
def fnExactPowModWrong : ChangeSpec := { name := "fnExactPowMod", fn := fun _ => fun
  | [d1, d2, d3] => { results := [.lit (.bool false)], args := [d1, d2, d3] }
  | _ => none }
def FnExactPowModWrongFalsely : Prop := fnExactPowModRow.holds Try.pinned (OpenSpec.ofChange fnExactPowModWrong)

/-- 'laws.FnExactKeyText': WHATEVER THE INPUT: true; the input reads as it did. -/
def fnExactKeyTextSpec : ChangeSpec := { name := "fnExactKeyText", fn := fun _ => fun
  | [d1, d2, d3] => { results := [.lit (.bool true)], args := [d1, d2, d3] }
  | _ => none }
def fnExactKeyTextRow : OpenClaim := { program := "ytefbodommaoaiab", sum := "d77ef2f8d8ba1ed046f21ca64c8d5048e01332c4d40582fdebbe3ff099c91f1a", func := "loop.example/g00023/laws.FnExactKeyText", spec := "fnExactKeyText", inPlace := ["internal/bytealg.IndexByteString", "internal/bytealg.IndexString"], named := ["internal/bytealg.MaxLen"], apart := false }
def FnExactKeyTextSaid : Prop := fnExactKeyTextRow.holds Try.pinned (OpenSpec.ofChange fnExactKeyTextSpec)

/-- ITS FALSE NEIGHBOUR: 'it returns false'. Refute it at one input. -/
def fnExactKeyTextWrong : ChangeSpec := { name := "fnExactKeyText", fn := fun _ => fun
  | [d1, d2, d3] => { results := [.lit (.bool false)], args := [d1, d2, d3] }
  | _ => none }
def FnExactKeyTextWrongFalsely : Prop := fnExactKeyTextRow.holds Try.pinned (OpenSpec.ofChange fnExactKeyTextWrong)

/-- 'laws.FnPowMod': WHATEVER THE INPUT: true; the input reads as it did. -/
def fnPowModSpec : ChangeSpec := { name := "fnPowMod", fn := fun _ => fun
  | [d] => { results := [.lit (.bool true)], args := [d] }
  | _ => none }
def fnPowModRow : OpenClaim := { program := "ytefbodommaoaiab", sum := "d77ef2f8d8ba1ed046f21ca64c8d5048e01332c4d40582fdebbe3ff099c91f1a", func := "loop.example/g00023/laws.FnPowMod", spec := "fnPowMod", unfollowed := true, recurses := true, named := ["math/bits.divideError", "math/bits.overflowError"], apart := false }
def FnPowModSaid : Prop := fnPowModRow.holds Try.pinned (OpenSpec.ofChange fnPowModSpec)

/-- ITS FALSE NEIGHBOUR: 'it returns false'. Refute it at one input. -/
def fnPowModWrong : ChangeSpec := { name := "fnPowMod", fn := fun _ => fun
  | [d] => { results := [.lit (.bool false)], args := [d] }
  | _ => none }
def FnPowModWrongFalsely : Prop := fnPowModRow.holds Try.pinned (OpenSpec.ofChange fnPowModWrong)

/- THE SECOND FORM. 'bulk': how many values and letters a reading holds, each counted each time it is reached (what is shared counts as often as it is met; a slice's spare places count too). A statement '..UptoSaid' is the law's where the arguments, and the package variables that the reading takes, are together of bulk at most 1048576: NARROWER than '..Said'. Prove '..Said' where nothing that the law and all that it calls make is longer than what came in: it says more and counts as full. Else prove '..UptoSaid'. A law counts once. -/
mutual
def uptoBulk {H : Type} : DataW H → Nat
  | .lit (.string bytes) => bytes.length + 1
  | .lit _ => 1
  | .nil => 1
  | .ptr d => uptoBulk d + 1
  | .slice elems spare => uptoBulkAll elems + uptoBulkAll spare + 1
  | .agg parts => uptoBulkAll parts + 1
  | .iface _ d => uptoBulk d + 1
  | .map entries => uptoBulkEntries entries + 1
  | .held _ => 1
def uptoBulkAll {H : Type} : List (DataW H) → Nat
  | [] => 0
  | d :: r => uptoBulk d + uptoBulkAll r
def uptoBulkEntries {H : Type} : List (Lit × DataW H) → Nat
  | [] => 0
  | x :: r => uptoBulkEntry x + uptoBulkEntries r
def uptoBulkEntry {H : Type} : Lit × DataW H → Nat
  | (.string bytes, d) => bytes.length + uptoBulk d + 1
  | (_, d) => uptoBulk d + 1
 end
def uptoSmall : (H : Type) → List (DataW H) → Bool := fun _ ds => decide (uptoBulkAll ds ≤ 1048576)
def OpenSpec.upto (s : _root_.Go.ChangeSpec) : _root_.Go.OpenSpec := { _root_.Go.OpenSpec.ofChange s with cond := some uptoSmall }

/-- 'laws.FnExactClash', WHERE WHAT IT READS IS OF BULK AT MOST 1048576: true; the input reads as it did. -/
def fnExactClashUptoRow : OpenClaim := { program := "ytefbodommaoaiab", sum := "d77ef2f8d8ba1ed046f21ca64c8d5048e01332c4d40582fdebbe3ff099c91f1a", func := "loop.example/g00023/laws.FnExactClash", spec := "fnExactClash", apart := false, narrowed := true }
def FnExactClashUptoSaid : Prop := fnExactClashUptoRow.holds Try.pinned (OpenSpec.upto fnExactClashSpec)

/-- 'laws.FnExactNameOk', WHERE WHAT IT READS IS OF BULK AT MOST 1048576: true; the input reads as it did. -/
def fnExactNameOkUptoRow : OpenClaim := { program := "ytefbodommaoaiab", sum := "d77ef2f8d8ba1ed046f21ca64c8d5048e01332c4d40582fdebbe3ff099c91f1a", func := "loop.example/g00023/laws.FnExactNameOk", spec := "fnExactNameOk", inPlace := ["internal/bytealg.IndexByteString", "internal/bytealg.IndexString"], named := ["internal/bytealg.MaxLen"], apart := false, narrowed := true }
def FnExactNameOkUptoSaid : Prop := fnExactNameOkUptoRow.holds Try.pinned (OpenSpec.upto fnExactNameOkSpec)

/-- 'laws.FnExactPowMod', WHERE WHAT IT READS IS OF BULK AT MOST 1048576: true; the input reads as it did. -/
def fnExactPowModUptoRow : OpenClaim := { program := "ytefbodommaoaiab", sum := "d77ef2f8d8ba1ed046f21ca64c8d5048e01332c4d40582fdebbe3ff099c91f1a", func := "loop.example/g00023/laws.FnExactPowMod", spec := "fnExactPowMod", unfollowed := true, recurses := true, named := ["math/bits.divideError", "math/bits.overflowError"], apart := false, narrowed := true }
def FnExactPowModUptoSaid : Prop := fnExactPowModUptoRow.holds Try.pinned (OpenSpec.upto fnExactPowModSpec)

/-- 'laws.FnExactKeyText', WHERE WHAT IT READS IS OF BULK AT MOST 1048576: true; the input reads as it did. -/
def fnExactKeyTextUptoRow : OpenClaim := { program := "ytefbodommaoaiab", sum := "d77ef2f8d8ba1ed046f21ca64c8d5048e01332c4d40582fdebbe3ff099c91f1a", func := "loop.example/g00023/laws.FnExactKeyText", spec := "fnExactKeyText", inPlace := ["internal/bytealg.IndexByteString", "internal/bytealg.IndexString"], named := ["internal/bytealg.MaxLen"], apart := false, narrowed := true }
def FnExactKeyTextUptoSaid : Prop := fnExactKeyTextUptoRow.holds Try.pinned (OpenSpec.upto fnExactKeyTextSpec)

/-- 'laws.FnPowMod', WHERE WHAT IT READS IS OF BULK AT MOST 1048576: true; the input reads as it did. -/
def fnPowModUptoRow : OpenClaim := { program := "ytefbodommaoaiab", sum := "d77ef2f8d8ba1ed046f21ca64c8d5048e01332c4d40582fdebbe3ff099c91f1a", func := "loop.example/g00023/laws.FnPowMod", spec := "fnPowMod", unfollowed := true, recurses := true, named := ["math/bits.divideError", "math/bits.overflowError"], apart := false, narrowed := true }
def FnPowModUptoSaid : Prop := fnPowModUptoRow.holds Try.pinned (OpenSpec.upto fnPowModSpec)

end Rows
end Go.Proofs.Ytefbodommaoaiab
