/-
  No cell of these rows narrows 'for every input' (looked for: loops, veiled, ifaces, maps, wideKeys, modest, calm, conditions, laid).
  DERIVED. THE GIVEN ROWS OF THIS SEAT. 11 by the template 'for every input the law returns true; each argument reads behind the call as it read before'; 0 by the template 'total and deterministic' (their statements: YtkijlpiiiejjkaaTotals.lean).
  GIVEN WITH THE SEED: the statements are not yours to turn. If you find one false, say at which input.
  Laid BY PROGRAM, IN A SANDBOX (cutbox-rows.mjs): the forced cells as the released guide's own fill.sh prints them over the translation fd02189d0c6ebdc8… (all of the seat's roots in one cut). By AI agents, Wed Nov 11 2026. No macro, syntax, notation, axiom, sorry.
-/
import Derived.Test.YtkijlpiiiejjkaaChecked
import GoSem.Claim
import GoSem.ClaimJoined
import GoSem.ClaimMapViews
import Derived.JoinedTies
import Derived.KernelRfl
namespace Go.Proofs.Ytkijlpiiiejjkaa
/- THE CELL 'sum', in the pinned program and in every row, IS THE sha256 OF THE DUMP (.gsa) THAT YtkijlpiiiejjkaaProg.lean LOADS. Nothing in Lean hashes anything: it is a label: what it is worth is what the hold of that sum in a sandbox is worth. -/
noncomputable def Try.pinned : Pinned := { name := "ytkijlpiiiejjkaa", sum := "fd02189d0c6ebdc854732797b5b008098fe6fda927674d37b31e17440d2a8779", checked := Try.checked }
namespace Rows
def none {H : Type} : Left H := { results := [], args := [] }

/-- 'laws.FnExactMakeDelta': WHATEVER THE INPUT: true; the input reads as it did. -/
def fnExactMakeDeltaSpec : ChangeSpec := { name := "fnExactMakeDelta", fn := fun _ => fun
  | [d1, d2] => { results := [.lit (.bool true)], args := [d1, d2] }
  | _ => none }
def fnExactMakeDeltaRow : OpenClaim := { program := "ytkijlpiiiejjkaa", sum := "fd02189d0c6ebdc854732797b5b008098fe6fda927674d37b31e17440d2a8779", func := "loop.example/g00023/laws.FnExactMakeDelta", spec := "fnExactMakeDelta", apart := false }
def FnExactMakeDeltaSaid : Prop := fnExactMakeDeltaRow.holds Try.pinned (OpenSpec.ofChange fnExactMakeDeltaSpec)

/-- ITS FALSE NEIGHBOUR: 'it returns false'. Refute it at one input. -/
def fnExactMakeDeltaWrong : ChangeSpec := { name := "fnExactMakeDelta", fn := fun _ => fun
  | [d1, d2] => { results := [.lit (.bool false)], args := [d1, d2] }
  | _ => none }
def FnExactMakeDeltaWrongFalsely : Prop := fnExactMakeDeltaRow.holds Try.pinned (OpenSpec.ofChange fnExactMakeDeltaWrong)

/-- 'laws.FnExactSaved': WHATEVER THE INPUT: true; the input reads as it did. -/
def fnExactSavedSpec : ChangeSpec := { name := "fnExactSaved", fn := fun _ => fun
  | [d1, d2] => { results := [.lit (.bool true)], args := [d1, d2] }
  | _ => none }
def fnExactSavedRow : OpenClaim := { program := "ytkijlpiiiejjkaa", sum := "fd02189d0c6ebdc854732797b5b008098fe6fda927674d37b31e17440d2a8779", func := "loop.example/g00023/laws.FnExactSaved", spec := "fnExactSaved", apart := false }
def FnExactSavedSaid : Prop := fnExactSavedRow.holds Try.pinned (OpenSpec.ofChange fnExactSavedSpec)

/-- ITS FALSE NEIGHBOUR: 'it returns false'. Refute it at one input. -/
def fnExactSavedWrong : ChangeSpec := { name := "fnExactSaved", fn := fun _ => fun
  | [d1, d2] => { results := [.lit (.bool false)], args := [d1, d2] }
  | _ => none }
def FnExactSavedWrongFalsely : Prop := fnExactSavedRow.holds Try.pinned (OpenSpec.ofChange fnExactSavedWrong)

/-- 'laws.FnExactApplyDelta': WHATEVER THE INPUT: true; the input reads as it did. -/
def fnExactApplyDeltaSpec : ChangeSpec := { name := "fnExactApplyDelta", fn := fun _ => fun
  | [d1, d2] => { results := [.lit (.bool true)], args := [d1, d2] }
  | _ => none }
def fnExactApplyDeltaRow : OpenClaim := { program := "ytkijlpiiiejjkaa", sum := "fd02189d0c6ebdc854732797b5b008098fe6fda927674d37b31e17440d2a8779", func := "loop.example/g00023/laws.FnExactApplyDelta", spec := "fnExactApplyDelta", apart := false }
def FnExactApplyDeltaSaid : Prop := fnExactApplyDeltaRow.holds Try.pinned (OpenSpec.ofChange fnExactApplyDeltaSpec)

/-- ITS FALSE NEIGHBOUR: 'it returns false'. Refute it at one input. -/
def fnExactApplyDeltaWrong : ChangeSpec := { name := "fnExactApplyDelta", fn := fun _ => fun
  | [d1, d2] => { results := [.lit (.bool false)], args := [d1, d2] }
  | _ => none }
def FnExactApplyDeltaWrongFalsely : Prop := fnExactApplyDeltaRow.holds Try.pinned (OpenSpec.ofChange fnExactApplyDeltaWrong)

/-- 'laws.FnExactDeltaBytes': WHATEVER THE INPUT: true; the input reads as it did. -/
def fnExactDeltaBytesSpec : ChangeSpec := { name := "fnExactDeltaBytes", fn := fun _ => fun
  | [d] => { results := [.lit (.bool true)], args := [d] }
  | _ => none }
def fnExactDeltaBytesRow : OpenClaim := { program := "ytkijlpiiiejjkaa", sum := "fd02189d0c6ebdc854732797b5b008098fe6fda927674d37b31e17440d2a8779", func := "loop.example/g00023/laws.FnExactDeltaBytes", spec := "fnExactDeltaBytes", apart := false }
def FnExactDeltaBytesSaid : Prop := fnExactDeltaBytesRow.holds Try.pinned (OpenSpec.ofChange fnExactDeltaBytesSpec)

/-- ITS FALSE NEIGHBOUR: 'it returns false'. Refute it at one input. -/
def fnExactDeltaBytesWrong : ChangeSpec := { name := "fnExactDeltaBytes", fn := fun _ => fun
  | [d] => { results := [.lit (.bool false)], args := [d] }
  | _ => none }
def FnExactDeltaBytesWrongFalsely : Prop := fnExactDeltaBytesRow.holds Try.pinned (OpenSpec.ofChange fnExactDeltaBytesWrong)

/-- 'laws.FnExactReadDelta': WHATEVER THE INPUT: true; the input reads as it did. -/
def fnExactReadDeltaSpec : ChangeSpec := { name := "fnExactReadDelta", fn := fun _ => fun
  | [d] => { results := [.lit (.bool true)], args := [d] }
  | _ => none }
def fnExactReadDeltaRow : OpenClaim := { program := "ytkijlpiiiejjkaa", sum := "fd02189d0c6ebdc854732797b5b008098fe6fda927674d37b31e17440d2a8779", func := "loop.example/g00023/laws.FnExactReadDelta", spec := "fnExactReadDelta", unfollowed := true, recurses := true, apart := false }
def FnExactReadDeltaSaid : Prop := fnExactReadDeltaRow.holds Try.pinned (OpenSpec.ofChange fnExactReadDeltaSpec)

/-- ITS FALSE NEIGHBOUR: 'it returns false'. Refute it at one input. -/
def fnExactReadDeltaWrong : ChangeSpec := { name := "fnExactReadDelta", fn := fun _ => fun
  | [d] => { results := [.lit (.bool false)], args := [d] }
  | _ => none }
def FnExactReadDeltaWrongFalsely : Prop := fnExactReadDeltaRow.holds Try.pinned (OpenSpec.ofChange fnExactReadDeltaWrong)

/-- 'laws.FnDeltaBack': WHATEVER THE INPUT: true; the input reads as it did. -/
def fnDeltaBackSpec : ChangeSpec := { name := "fnDeltaBack", fn := fun _ => fun
  | [d] => { results := [.lit (.bool true)], args := [d] }
  | _ => none }
def fnDeltaBackRow : OpenClaim := { program := "ytkijlpiiiejjkaa", sum := "fd02189d0c6ebdc854732797b5b008098fe6fda927674d37b31e17440d2a8779", func := "loop.example/g00023/laws.FnDeltaBack", spec := "fnDeltaBack", unfollowed := true, recurses := true, apart := false }
def FnDeltaBackSaid : Prop := fnDeltaBackRow.holds Try.pinned (OpenSpec.ofChange fnDeltaBackSpec)

/-- ITS FALSE NEIGHBOUR: 'it returns false'. Refute it at one input. -/
def fnDeltaBackWrong : ChangeSpec := { name := "fnDeltaBack", fn := fun _ => fun
  | [d] => { results := [.lit (.bool false)], args := [d] }
  | _ => none }
def FnDeltaBackWrongFalsely : Prop := fnDeltaBackRow.holds Try.pinned (OpenSpec.ofChange fnDeltaBackWrong)

/-- 'laws.FnExactMakeKey': WHATEVER THE INPUT: true; the input reads as it did. -/
def fnExactMakeKeySpec : ChangeSpec := { name := "fnExactMakeKey", fn := fun _ => fun
  | [d1, d2, d3] => { results := [.lit (.bool true)], args := [d1, d2, d3] }
  | _ => none }
def fnExactMakeKeyRow : OpenClaim := { program := "ytkijlpiiiejjkaa", sum := "fd02189d0c6ebdc854732797b5b008098fe6fda927674d37b31e17440d2a8779", func := "loop.example/g00023/laws.FnExactMakeKey", spec := "fnExactMakeKey", named := ["math/bits.divideError", "math/bits.overflowError"], apart := false }
def FnExactMakeKeySaid : Prop := fnExactMakeKeyRow.holds Try.pinned (OpenSpec.ofChange fnExactMakeKeySpec)

/-- ITS FALSE NEIGHBOUR: 'it returns false'. Refute it at one input. -/
def fnExactMakeKeyWrong : ChangeSpec := { name := "fnExactMakeKey", fn := fun _ => fun
  | [d1, d2, d3] => { results := [.lit (.bool false)], args := [d1, d2, d3] }
  | _ => none }
def FnExactMakeKeyWrongFalsely : Prop := fnExactMakeKeyRow.holds Try.pinned (OpenSpec.ofChange fnExactMakeKeyWrong)

/-- 'laws.FnExactCheck': WHATEVER THE INPUT: true; the input reads as it did. -/
def fnExactCheckSpec : ChangeSpec := { name := "fnExactCheck", fn := fun _ => fun
  | [d1, d2, d3, d4] => { results := [.lit (.bool true)], args := [d1, d2, d3, d4] }
  | _ => none }
def fnExactCheckRow : OpenClaim := { program := "ytkijlpiiiejjkaa", sum := "fd02189d0c6ebdc854732797b5b008098fe6fda927674d37b31e17440d2a8779", func := "loop.example/g00023/laws.FnExactCheck", spec := "fnExactCheck", unfollowed := true, recurses := true, named := ["math/bits.divideError", "math/bits.overflowError"], apart := false }
def FnExactCheckSaid : Prop := fnExactCheckRow.holds Try.pinned (OpenSpec.ofChange fnExactCheckSpec)

/-- ITS FALSE NEIGHBOUR: 'it returns false'. Refute it at one input. -/
def fnExactCheckWrong : ChangeSpec := { name := "fnExactCheck", fn := fun _ => fun
  | [d1, d2, d3, d4] => { results := [.lit (.bool false)], args := [d1, d2, d3, d4] }
  | _ => none }
def FnExactCheckWrongFalsely : Prop := fnExactCheckRow.holds Try.pinned (OpenSpec.ofChange fnExactCheckWrong)

/-- 'laws.FnExactSign': WHATEVER THE INPUT: true; the input reads as it did. -/
def fnExactSignSpec : ChangeSpec := { name := "fnExactSign", fn := fun _ => fun
  | [d1, d2] => { results := [.lit (.bool true)], args := [d1, d2] }
  | _ => none }
def fnExactSignRow : OpenClaim := { program := "ytkijlpiiiejjkaa", sum := "fd02189d0c6ebdc854732797b5b008098fe6fda927674d37b31e17440d2a8779", func := "loop.example/g00023/laws.FnExactSign", spec := "fnExactSign", unfollowed := true, recurses := true, named := ["math/bits.divideError", "math/bits.overflowError"], apart := false }
def FnExactSignSaid : Prop := fnExactSignRow.holds Try.pinned (OpenSpec.ofChange fnExactSignSpec)

/-- ITS FALSE NEIGHBOUR: 'it returns false'. Refute it at one input. -/
def fnExactSignWrong : ChangeSpec := { name := "fnExactSign", fn := fun _ => fun
  | [d1, d2] => { results := [.lit (.bool false)], args := [d1, d2] }
  | _ => none }
def FnExactSignWrongFalsely : Prop := fnExactSignRow.holds Try.pinned (OpenSpec.ofChange fnExactSignWrong)

/-- 'laws.FnExactPowMod': WHATEVER THE INPUT: true; the input reads as it did. -/
def fnExactPowModSpec : ChangeSpec := { name := "fnExactPowMod", fn := fun _ => fun
  | [d1, d2, d3] => { results := [.lit (.bool true)], args := [d1, d2, d3] }
  | _ => none }
def fnExactPowModRow : OpenClaim := { program := "ytkijlpiiiejjkaa", sum := "fd02189d0c6ebdc854732797b5b008098fe6fda927674d37b31e17440d2a8779", func := "loop.example/g00023/laws.FnExactPowMod", spec := "fnExactPowMod", unfollowed := true, recurses := true, named := ["math/bits.divideError", "math/bits.overflowError"], apart := false }
def FnExactPowModSaid : Prop := fnExactPowModRow.holds Try.pinned (OpenSpec.ofChange fnExactPowModSpec)

/-- ITS FALSE NEIGHBOUR: 'it returns false'. Refute it at one input. -/
def fnExactPowModWrong : ChangeSpec := { name := "fnExactPowMod", fn := fun _ => fun
  | [d1, d2, d3] => { results := [.lit (.bool false)], args := [d1, d2, d3] }
  | _ => none }
def FnExactPowModWrongFalsely : Prop := fnExactPowModRow.holds Try.pinned (OpenSpec.ofChange fnExactPowModWrong)

/-- 'laws.FnPowMod': WHATEVER THE INPUT: true; the input reads as it did. -/
def fnPowModSpec : ChangeSpec := { name := "fnPowMod", fn := fun _ => fun
  | [d] => { results := [.lit (.bool true)], args := [d] }
  | _ => none }
def fnPowModRow : OpenClaim := { program := "ytkijlpiiiejjkaa", sum := "fd02189d0c6ebdc854732797b5b008098fe6fda927674d37b31e17440d2a8779", func := "loop.example/g00023/laws.FnPowMod", spec := "fnPowMod", unfollowed := true, recurses := true, named := ["math/bits.divideError", "math/bits.overflowError"], apart := false }
def FnPowModSaid : Prop := fnPowModRow.holds Try.pinned (OpenSpec.ofChange fnPowModSpec)

/-- ITS FALSE NEIGHBOUR: 'it returns false'. Refute it at one input. -/
def fnPowModWrong : ChangeSpec := { name := "fnPowMod", fn := fun _ => fun
  | [d] => { results := [.lit (.bool false)], args := [d] }
  | _ => none }
def FnPowModWrongFalsely : Prop := fnPowModRow.holds Try.pinned (OpenSpec.ofChange fnPowModWrong)

/- THE SECOND FORM. 'bulk': how many values and letters a reading holds, each counted each time it is reached (what is shared counts as often as it is met; a slice's spare places count too). A statement '..UptoSaid' is the law's where the arguments, and the package variables that the reading takes, are together of bulk at most 1048576: NARROWER than '..Said'. Prove '..Said' where nothing that the law and all that it calls make is longer than what came in: it says more and counts as full. Else prove '..UptoSaid'. A law counts once. -/
mutual
def uptoBulk {H : Type} : DataW H → Nat
  | .lit (.string bytes) => bytes.length + 1
  | .lit _ => 1
  | .nil => 1
  | .ptr d => uptoBulk d + 1
  | .slice elems spare => uptoBulkAll elems + uptoBulkAll spare + 1
  | .agg parts => uptoBulkAll parts + 1
  | .iface _ d => uptoBulk d + 1
  | .map entries => uptoBulkEntries entries + 1
  | .held _ => 1
def uptoBulkAll {H : Type} : List (DataW H) → Nat
  | [] => 0
  | d :: r => uptoBulk d + uptoBulkAll r
def uptoBulkEntries {H : Type} : List (Lit × DataW H) → Nat
  | [] => 0
  | x :: r => uptoBulkEntry x + uptoBulkEntries r
def uptoBulkEntry {H : Type} : Lit × DataW H → Nat
  | (.string bytes, d) => bytes.length + uptoBulk d + 1
  | (_, d) => uptoBulk d + 1
 end
def uptoSmall : (H : Type) → List (DataW H) → Bool := fun _ ds => decide (uptoBulkAll ds ≤ 1048576)
def OpenSpec.upto (s : _root_.Go.ChangeSpec) : _root_.Go.OpenSpec := { _root_.Go.OpenSpec.ofChange s with cond := some uptoSmall }

/-- 'laws.FnExactMakeDelta', WHERE WHAT IT READS IS OF BULK AT MOST 1048576: true; the input reads as it did. -/
def fnExactMakeDeltaUptoRow : OpenClaim := { program := "ytkijlpiiiejjkaa", sum := "fd02189d0c6ebdc854732797b5b008098fe6fda927674d37b31e17440d2a8779", func := "loop.example/g00023/laws.FnExactMakeDelta", spec := "fnExactMakeDelta", apart := false, narrowed := true }
def FnExactMakeDeltaUptoSaid : Prop := fnExactMakeDeltaUptoRow.holds Try.pinned (OpenSpec.upto fnExactMakeDeltaSpec)

/-- 'laws.FnExactSaved', WHERE WHAT IT READS IS OF BULK AT MOST 1048576: true; the input reads as it did. -/
def fnExactSavedUptoRow : OpenClaim := { program := "ytkijlpiiiejjkaa", sum := "fd02189d0c6ebdc854732797b5b008098fe6fda927674d37b31e17440d2a8779", func := "loop.example/g00023/laws.FnExactSaved", spec := "fnExactSaved", apart := false, narrowed := true }
def FnExactSavedUptoSaid : Prop := fnExactSavedUptoRow.holds Try.pinned (OpenSpec.upto fnExactSavedSpec)

/-- 'laws.FnExactApplyDelta', WHERE WHAT IT READS IS OF BULK AT MOST 1048576: true; the input reads as it did. -/
def fnExactApplyDeltaUptoRow : OpenClaim := { program := "ytkijlpiiiejjkaa", sum := "fd02189d0c6ebdc854732797b5b008098fe6fda927674d37b31e17440d2a8779", func := "loop.example/g00023/laws.FnExactApplyDelta", spec := "fnExactApplyDelta", apart := false, narrowed := true }
def FnExactApplyDeltaUptoSaid : Prop := fnExactApplyDeltaUptoRow.holds Try.pinned (OpenSpec.upto fnExactApplyDeltaSpec)

/-- 'laws.FnExactDeltaBytes', WHERE WHAT IT READS IS OF BULK AT MOST 1048576: true; the input reads as it did. -/
def fnExactDeltaBytesUptoRow : OpenClaim := { program := "ytkijlpiiiejjkaa", sum := "fd02189d0c6ebdc854732797b5b008098fe6fda927674d37b31e17440d2a8779", func := "loop.example/g00023/laws.FnExactDeltaBytes", spec := "fnExactDeltaBytes", apart := false, narrowed := true }
def FnExactDeltaBytesUptoSaid : Prop := fnExactDeltaBytesUptoRow.holds Try.pinned (OpenSpec.upto fnExactDeltaBytesSpec)

/-- 'laws.FnExactReadDelta', WHERE WHAT IT READS IS OF BULK AT MOST 1048576: true; the input reads as it did. -/
def fnExactReadDeltaUptoRow : OpenClaim := { program := "ytkijlpiiiejjkaa", sum := "fd02189d0c6ebdc854732797b5b008098fe6fda927674d37b31e17440d2a8779", func := "loop.example/g00023/laws.FnExactReadDelta", spec := "fnExactReadDelta", unfollowed := true, recurses := true, apart := false, narrowed := true }
def FnExactReadDeltaUptoSaid : Prop := fnExactReadDeltaUptoRow.holds Try.pinned (OpenSpec.upto fnExactReadDeltaSpec)

/-- 'laws.FnDeltaBack', WHERE WHAT IT READS IS OF BULK AT MOST 1048576: true; the input reads as it did. -/
def fnDeltaBackUptoRow : OpenClaim := { program := "ytkijlpiiiejjkaa", sum := "fd02189d0c6ebdc854732797b5b008098fe6fda927674d37b31e17440d2a8779", func := "loop.example/g00023/laws.FnDeltaBack", spec := "fnDeltaBack", unfollowed := true, recurses := true, apart := false, narrowed := true }
def FnDeltaBackUptoSaid : Prop := fnDeltaBackUptoRow.holds Try.pinned (OpenSpec.upto fnDeltaBackSpec)

/-- 'laws.FnExactMakeKey', WHERE WHAT IT READS IS OF BULK AT MOST 1048576: true; the input reads as it did. -/
def fnExactMakeKeyUptoRow : OpenClaim := { program := "ytkijlpiiiejjkaa", sum := "fd02189d0c6ebdc854732797b5b008098fe6fda927674d37b31e17440d2a8779", func := "loop.example/g00023/laws.FnExactMakeKey", spec := "fnExactMakeKey", named := ["math/bits.divideError", "math/bits.overflowError"], apart := false, narrowed := true }
def FnExactMakeKeyUptoSaid : Prop := fnExactMakeKeyUptoRow.holds Try.pinned (OpenSpec.upto fnExactMakeKeySpec)

/-- 'laws.FnExactCheck', WHERE WHAT IT READS IS OF BULK AT MOST 1048576: true; the input reads as it did. -/
def fnExactCheckUptoRow : OpenClaim := { program := "ytkijlpiiiejjkaa", sum := "fd02189d0c6ebdc854732797b5b008098fe6fda927674d37b31e17440d2a8779", func := "loop.example/g00023/laws.FnExactCheck", spec := "fnExactCheck", unfollowed := true, recurses := true, named := ["math/bits.divideError", "math/bits.overflowError"], apart := false, narrowed := true }
def FnExactCheckUptoSaid : Prop := fnExactCheckUptoRow.holds Try.pinned (OpenSpec.upto fnExactCheckSpec)

/-- 'laws.FnExactSign', WHERE WHAT IT READS IS OF BULK AT MOST 1048576: true; the input reads as it did. -/
def fnExactSignUptoRow : OpenClaim := { program := "ytkijlpiiiejjkaa", sum := "fd02189d0c6ebdc854732797b5b008098fe6fda927674d37b31e17440d2a8779", func := "loop.example/g00023/laws.FnExactSign", spec := "fnExactSign", unfollowed := true, recurses := true, named := ["math/bits.divideError", "math/bits.overflowError"], apart := false, narrowed := true }
def FnExactSignUptoSaid : Prop := fnExactSignUptoRow.holds Try.pinned (OpenSpec.upto fnExactSignSpec)

/-- 'laws.FnExactPowMod', WHERE WHAT IT READS IS OF BULK AT MOST 1048576: true; the input reads as it did. -/
def fnExactPowModUptoRow : OpenClaim := { program := "ytkijlpiiiejjkaa", sum := "fd02189d0c6ebdc854732797b5b008098fe6fda927674d37b31e17440d2a8779", func := "loop.example/g00023/laws.FnExactPowMod", spec := "fnExactPowMod", unfollowed := true, recurses := true, named := ["math/bits.divideError", "math/bits.overflowError"], apart := false, narrowed := true }
def FnExactPowModUptoSaid : Prop := fnExactPowModUptoRow.holds Try.pinned (OpenSpec.upto fnExactPowModSpec)

/-- 'laws.FnPowMod', WHERE WHAT IT READS IS OF BULK AT MOST 1048576: true; the input reads as it did. -/
def fnPowModUptoRow : OpenClaim := { program := "ytkijlpiiiejjkaa", sum := "fd02189d0c6ebdc854732797b5b008098fe6fda927674d37b31e17440d2a8779", func := "loop.example/g00023/laws.FnPowMod", spec := "fnPowMod", unfollowed := true, recurses := true, named := ["math/bits.divideError", "math/bits.overflowError"], apart := false, narrowed := true }
def FnPowModUptoSaid : Prop := fnPowModUptoRow.holds Try.pinned (OpenSpec.upto fnPowModSpec)

end Rows
end Go.Proofs.Ytkijlpiiiejjkaa
