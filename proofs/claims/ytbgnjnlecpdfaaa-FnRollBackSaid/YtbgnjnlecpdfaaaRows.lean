/-
  No cell of these rows narrows 'for every input' (looked for: loops, veiled, ifaces, maps, wideKeys, modest, calm, conditions, laid).
  DERIVED. THE GIVEN ROWS OF THIS SEAT. 6 by the template 'for every input the law returns true; each argument reads behind the call as it read before'; 0 by the template 'total and deterministic' (their statements: YtbgnjnlecpdfaaaTotals.lean).
  GIVEN WITH THE SEED: the statements are not yours to turn. If you find one false, say at which input.
  Laid BY PROGRAM, IN A SANDBOX (cutbox-rows.mjs): the forced cells as the released guide's own fill.sh prints them over the translation 5ac2e3388400a1d6… (all of the seat's roots in one cut). By AI agents, Wed Nov 11 2026. No macro, syntax, notation, axiom, sorry.
-/
import Derived.Test.YtbgnjnlecpdfaaaChecked
import GoSem.Claim
import GoSem.ClaimJoined
import GoSem.ClaimMapViews
import Derived.JoinedTies
import Derived.KernelRfl
namespace Go.Proofs.Ytbgnjnlecpdfaaa
/- THE CELL 'sum', in the pinned program and in every row, IS THE sha256 OF THE DUMP (.gsa) THAT YtbgnjnlecpdfaaaProg.lean LOADS. Nothing in Lean hashes anything: it is a label: what it is worth is what the hold of that sum in a sandbox is worth. -/
noncomputable def Try.pinned : Pinned := { name := "ytbgnjnlecpdfaaa", sum := "5ac2e3388400a1d656a166082ea081ffd169fad216d157b96f0ba5cb8a64bf34", checked := Try.checked }
namespace Rows
def none {H : Type} : Left H := { results := [], args := [] }

/-- 'laws.FnExactProfilesOk': WHATEVER THE INPUT: true; the input reads as it did. -/
def fnExactProfilesOkSpec : ChangeSpec := { name := "fnExactProfilesOk", fn := fun _ => fun
  | [d] => { results := [.lit (.bool true)], args := [d] }
  | _ => none }
def fnExactProfilesOkRow : OpenClaim := { program := "ytbgnjnlecpdfaaa", sum := "5ac2e3388400a1d656a166082ea081ffd169fad216d157b96f0ba5cb8a64bf34", func := "loop.example/g00023/laws.FnExactProfilesOk", spec := "fnExactProfilesOk", inPlace := ["internal/bytealg.IndexByteString", "internal/bytealg.IndexString"], named := ["internal/bytealg.MaxLen"], apart := false }
def FnExactProfilesOkSaid : Prop := fnExactProfilesOkRow.holds Try.pinned (OpenSpec.ofChange fnExactProfilesOkSpec)

/-- ITS FALSE NEIGHBOUR: 'it returns false'. Refute it at one input. -/
def fnExactProfilesOkWrong : ChangeSpec := { name := "fnExactProfilesOk", fn := fun _ => fun
  | [d] => { results := [.lit (.bool false)], args := [d] }
  | _ => none }
def FnExactProfilesOkWrongFalsely : Prop := fnExactProfilesOkRow.holds Try.pinned (OpenSpec.ofChange fnExactProfilesOkWrong)

/-- 'laws.FnExactCurrent': WHATEVER THE INPUT: true; the input reads as it did. -/
def fnExactCurrentSpec : ChangeSpec := { name := "fnExactCurrent", fn := fun _ => fun
  | [d1, d2] => { results := [.lit (.bool true)], args := [d1, d2] }
  | _ => none }
def fnExactCurrentRow : OpenClaim := { program := "ytbgnjnlecpdfaaa", sum := "5ac2e3388400a1d656a166082ea081ffd169fad216d157b96f0ba5cb8a64bf34", func := "loop.example/g00023/laws.FnExactCurrent", spec := "fnExactCurrent", inPlace := ["internal/bytealg.IndexByteString", "internal/bytealg.IndexString"], named := ["internal/bytealg.MaxLen"], apart := false }
def FnExactCurrentSaid : Prop := fnExactCurrentRow.holds Try.pinned (OpenSpec.ofChange fnExactCurrentSpec)

/-- ITS FALSE NEIGHBOUR: 'it returns false'. Refute it at one input. -/
def fnExactCurrentWrong : ChangeSpec := { name := "fnExactCurrent", fn := fun _ => fun
  | [d1, d2] => { results := [.lit (.bool false)], args := [d1, d2] }
  | _ => none }
def FnExactCurrentWrongFalsely : Prop := fnExactCurrentRow.holds Try.pinned (OpenSpec.ofChange fnExactCurrentWrong)

/-- 'laws.FnExactRollback': WHATEVER THE INPUT: true; the input reads as it did. -/
def fnExactRollbackSpec : ChangeSpec := { name := "fnExactRollback", fn := fun _ => fun
  | [d1, d2] => { results := [.lit (.bool true)], args := [d1, d2] }
  | _ => none }
def fnExactRollbackRow : OpenClaim := { program := "ytbgnjnlecpdfaaa", sum := "5ac2e3388400a1d656a166082ea081ffd169fad216d157b96f0ba5cb8a64bf34", func := "loop.example/g00023/laws.FnExactRollback", spec := "fnExactRollback", inPlace := ["internal/bytealg.IndexByteString", "internal/bytealg.IndexString"], named := ["internal/bytealg.MaxLen"], apart := false }
def FnExactRollbackSaid : Prop := fnExactRollbackRow.holds Try.pinned (OpenSpec.ofChange fnExactRollbackSpec)

/-- ITS FALSE NEIGHBOUR: 'it returns false'. Refute it at one input. -/
def fnExactRollbackWrong : ChangeSpec := { name := "fnExactRollback", fn := fun _ => fun
  | [d1, d2] => { results := [.lit (.bool false)], args := [d1, d2] }
  | _ => none }
def FnExactRollbackWrongFalsely : Prop := fnExactRollbackRow.holds Try.pinned (OpenSpec.ofChange fnExactRollbackWrong)

/-- 'laws.FnExactPrune': WHATEVER THE INPUT: true; the input reads as it did. -/
def fnExactPruneSpec : ChangeSpec := { name := "fnExactPrune", fn := fun _ => fun
  | [d1, d2, d3] => { results := [.lit (.bool true)], args := [d1, d2, d3] }
  | _ => none }
def fnExactPruneRow : OpenClaim := { program := "ytbgnjnlecpdfaaa", sum := "5ac2e3388400a1d656a166082ea081ffd169fad216d157b96f0ba5cb8a64bf34", func := "loop.example/g00023/laws.FnExactPrune", spec := "fnExactPrune", inPlace := ["internal/bytealg.IndexByteString", "internal/bytealg.IndexString"], named := ["internal/bytealg.MaxLen"], apart := false }
def FnExactPruneSaid : Prop := fnExactPruneRow.holds Try.pinned (OpenSpec.ofChange fnExactPruneSpec)

/-- ITS FALSE NEIGHBOUR: 'it returns false'. Refute it at one input. -/
def fnExactPruneWrong : ChangeSpec := { name := "fnExactPrune", fn := fun _ => fun
  | [d1, d2, d3] => { results := [.lit (.bool false)], args := [d1, d2, d3] }
  | _ => none }
def FnExactPruneWrongFalsely : Prop := fnExactPruneRow.holds Try.pinned (OpenSpec.ofChange fnExactPruneWrong)

/-- 'laws.FnExactSwitch': WHATEVER THE INPUT: true; the input reads as it did. -/
def fnExactSwitchSpec : ChangeSpec := { name := "fnExactSwitch", fn := fun _ => fun
  | [d1, d2, d3] => { results := [.lit (.bool true)], args := [d1, d2, d3] }
  | _ => none }
def fnExactSwitchRow : OpenClaim := { program := "ytbgnjnlecpdfaaa", sum := "5ac2e3388400a1d656a166082ea081ffd169fad216d157b96f0ba5cb8a64bf34", func := "loop.example/g00023/laws.FnExactSwitch", spec := "fnExactSwitch", inPlace := ["internal/bytealg.IndexByteString", "internal/bytealg.IndexString"], named := ["internal/bytealg.MaxLen"], apart := false }
def FnExactSwitchSaid : Prop := fnExactSwitchRow.holds Try.pinned (OpenSpec.ofChange fnExactSwitchSpec)

/-- ITS FALSE NEIGHBOUR: 'it returns false'. Refute it at one input. -/
def fnExactSwitchWrong : ChangeSpec := { name := "fnExactSwitch", fn := fun _ => fun
  | [d1, d2, d3] => { results := [.lit (.bool false)], args := [d1, d2, d3] }
  | _ => none }
def FnExactSwitchWrongFalsely : Prop := fnExactSwitchRow.holds Try.pinned (OpenSpec.ofChange fnExactSwitchWrong)

/-- 'laws.FnRollBack': WHATEVER THE INPUT: true; the input reads as it did. -/
def fnRollBackSpec : ChangeSpec := { name := "fnRollBack", fn := fun _ => fun
  | [d] => { results := [.lit (.bool true)], args := [d] }
  | _ => none }
def fnRollBackRow : OpenClaim := { program := "ytbgnjnlecpdfaaa", sum := "5ac2e3388400a1d656a166082ea081ffd169fad216d157b96f0ba5cb8a64bf34", func := "loop.example/g00023/laws.FnRollBack", spec := "fnRollBack", inPlace := ["internal/bytealg.IndexByteString", "internal/bytealg.IndexString"], named := ["internal/bytealg.MaxLen"], apart := false }
def FnRollBackSaid : Prop := fnRollBackRow.holds Try.pinned (OpenSpec.ofChange fnRollBackSpec)

/-- ITS FALSE NEIGHBOUR: 'it returns false'. Refute it at one input. -/
def fnRollBackWrong : ChangeSpec := { name := "fnRollBack", fn := fun _ => fun
  | [d] => { results := [.lit (.bool false)], args := [d] }
  | _ => none }
def FnRollBackWrongFalsely : Prop := fnRollBackRow.holds Try.pinned (OpenSpec.ofChange fnRollBackWrong)

/- THE SECOND FORM. 'bulk': how many values and letters a reading holds, each counted each time it is reached (what is shared counts as often as it is met; a slice's spare places count too). A statement '..UptoSaid' is the law's where the arguments, and the package variables that the reading takes, are together of bulk at most 1048576: NARROWER than '..Said'. Prove '..Said' where nothing that the law and all that it calls make is longer than what came in: it says more and counts as full. Else prove '..UptoSaid'. A law counts once. -/
mutual
def uptoBulk {H : Type} : DataW H → Nat
  | .lit (.string bytes) => bytes.length + 1
  | .lit _ => 1
  | .nil => 1
  | .ptr d => uptoBulk d + 1
  | .slice elems spare => uptoBulkAll elems + uptoBulkAll spare + 1
  | .agg parts => uptoBulkAll parts + 1
  | .iface _ d => uptoBulk d + 1
  | .map entries => uptoBulkEntries entries + 1
  | .held _ => 1
def uptoBulkAll {H : Type} : List (DataW H) → Nat
  | [] => 0
  | d :: r => uptoBulk d + uptoBulkAll r
def uptoBulkEntries {H : Type} : List (Lit × DataW H) → Nat
  | [] => 0
  | x :: r => uptoBulkEntry x + uptoBulkEntries r
def uptoBulkEntry {H : Type} : Lit × DataW H → Nat
  | (.string bytes, d) => bytes.length + uptoBulk d + 1
  | (_, d) => uptoBulk d + 1
 end
def uptoSmall : (H : Type) → List (DataW H) → Bool := fun _ ds => decide (uptoBulkAll ds ≤ 1048576)
def OpenSpec.upto (s : _root_.Go.ChangeSpec) : _root_.Go.OpenSpec := { _root_.Go.OpenSpec.ofChange s with cond := some uptoSmall }

/-- 'laws.FnExactProfilesOk', WHERE WHAT IT READS IS OF BULK AT MOST 1048576: true; the input reads as it did. -/
def fnExactProfilesOkUptoRow : OpenClaim := { program := "ytbgnjnlecpdfaaa", sum := "5ac2e3388400a1d656a166082ea081ffd169fad216d157b96f0ba5cb8a64bf34", func := "loop.example/g00023/laws.FnExactProfilesOk", spec := "fnExactProfilesOk", inPlace := ["internal/bytealg.IndexByteString", "internal/bytealg.IndexString"], named := ["internal/bytealg.MaxLen"], apart := false, narrowed := true }
def FnExactProfilesOkUptoSaid : Prop := fnExactProfilesOkUptoRow.holds Try.pinned (OpenSpec.upto fnExactProfilesOkSpec)

/-- 'laws.FnExactCurrent', WHERE WHAT IT READS IS OF BULK AT MOST 1048576: true; the input reads as it did. -/
def fnExactCurrentUptoRow : OpenClaim := { program := "ytbgnjnlecpdfaaa", sum := "5ac2e3388400a1d656a166082ea081ffd169fad216d157b96f0ba5cb8a64bf34", func := "loop.example/g00023/laws.FnExactCurrent", spec := "fnExactCurrent", inPlace := ["internal/bytealg.IndexByteString", "internal/bytealg.IndexString"], named := ["internal/bytealg.MaxLen"], apart := false, narrowed := true }
def FnExactCurrentUptoSaid : Prop := fnExactCurrentUptoRow.holds Try.pinned (OpenSpec.upto fnExactCurrentSpec)

/-- 'laws.FnExactRollback', WHERE WHAT IT READS IS OF BULK AT MOST 1048576: true; the input reads as it did. -/
def fnExactRollbackUptoRow : OpenClaim := { program := "ytbgnjnlecpdfaaa", sum := "5ac2e3388400a1d656a166082ea081ffd169fad216d157b96f0ba5cb8a64bf34", func := "loop.example/g00023/laws.FnExactRollback", spec := "fnExactRollback", inPlace := ["internal/bytealg.IndexByteString", "internal/bytealg.IndexString"], named := ["internal/bytealg.MaxLen"], apart := false, narrowed := true }
def FnExactRollbackUptoSaid : Prop := fnExactRollbackUptoRow.holds Try.pinned (OpenSpec.upto fnExactRollbackSpec)

/-- 'laws.FnExactPrune', WHERE WHAT IT READS IS OF BULK AT MOST 1048576: true; the input reads as it did. -/
def fnExactPruneUptoRow : OpenClaim := { program := "ytbgnjnlecpdfaaa", sum := "5ac2e3388400a1d656a166082ea081ffd169fad216d157b96f0ba5cb8a64bf34", func := "loop.example/g00023/laws.FnExactPrune", spec := "fnExactPrune", inPlace := ["internal/bytealg.IndexByteString", "internal/bytealg.IndexString"], named := ["internal/bytealg.MaxLen"], apart := false, narrowed := true }
def FnExactPruneUptoSaid : Prop := fnExactPruneUptoRow.holds Try.pinned (OpenSpec.upto fnExactPruneSpec)

/-- 'laws.FnExactSwitch', WHERE WHAT IT READS IS OF BULK AT MOST 1048576: true; the input reads as it did. -/
def fnExactSwitchUptoRow : OpenClaim := { program := "ytbgnjnlecpdfaaa", sum := "5ac2e3388400a1d656a166082ea081ffd169fad216d157b96f0ba5cb8a64bf34", func := "loop.example/g00023/laws.FnExactSwitch", spec := "fnExactSwitch", inPlace := ["internal/bytealg.IndexByteString", "internal/bytealg.IndexString"], named := ["internal/bytealg.MaxLen"], apart := false, narrowed := true }
def FnExactSwitchUptoSaid : Prop := fnExactSwitchUptoRow.holds Try.pinned (OpenSpec.upto fnExactSwitchSpec)

/-- 'laws.FnRollBack', WHERE WHAT IT READS IS OF BULK AT MOST 1048576: true; the input reads as it did. -/
def fnRollBackUptoRow : OpenClaim := { program := "ytbgnjnlecpdfaaa", sum := "5ac2e3388400a1d656a166082ea081ffd169fad216d157b96f0ba5cb8a64bf34", func := "loop.example/g00023/laws.FnRollBack", spec := "fnRollBack", inPlace := ["internal/bytealg.IndexByteString", "internal/bytealg.IndexString"], named := ["internal/bytealg.MaxLen"], apart := false, narrowed := true }
def FnRollBackUptoSaid : Prop := fnRollBackUptoRow.holds Try.pinned (OpenSpec.upto fnRollBackSpec)

end Rows
end Go.Proofs.Ytbgnjnlecpdfaaa
