/-
  No cell of these rows narrows 'for every input' (looked for: loops, veiled, ifaces, maps, wideKeys, modest, calm, conditions, laid).
  DERIVED. THE GIVEN ROWS OF THIS SEAT. 5 by the template 'for every input the law returns true; each argument reads behind the call as it read before'; 0 by the template 'total and deterministic' (their statements: YtklinldidfdnjaaTotals.lean).
  GIVEN WITH THE SEED: the statements are not yours to turn. If you find one false, say at which input.
  Laid BY PROGRAM, IN A SANDBOX (cutbox-rows.mjs): the forced cells as the released guide's own fill.sh prints them over the translation 3c475e954706aac2… (all of the seat's roots in one cut). By AI agents, Wed Nov 11 2026. No macro, syntax, notation, axiom, sorry.
-/
import Derived.Test.YtklinldidfdnjaaChecked
import GoSem.Claim
import GoSem.ClaimJoined
import GoSem.ClaimMapViews
import Derived.JoinedTies
import Derived.KernelRfl
namespace Go.Proofs.Ytklinldidfdnjaa
/- THE CELL 'sum', in the pinned program and in every row, IS THE sha256 OF THE DUMP (.gsa) THAT YtklinldidfdnjaaProg.lean LOADS. Nothing in Lean hashes anything: it is a label: what it is worth is what the hold of that sum in a sandbox is worth. -/
noncomputable def Try.pinned : Pinned := { name := "ytklinldidfdnjaa", sum := "3c475e954706aac214a9a305474536efea07d5d1ba19cf2d3239f68a7cf5bb78", checked := Try.checked }
namespace Rows
def none {H : Type} : Left H := { results := [], args := [] }

/-- 'laws.FnExactAddressOk': WHATEVER THE INPUT: true; the input reads as it did. -/
def fnExactAddressOkSpec : ChangeSpec := { name := "fnExactAddressOk", fn := fun _ => fun
  | [d] => { results := [.lit (.bool true)], args := [d] }
  | _ => none }
def fnExactAddressOkRow : OpenClaim := { program := "ytklinldidfdnjaa", sum := "3c475e954706aac214a9a305474536efea07d5d1ba19cf2d3239f68a7cf5bb78", func := "loop.example/g00023/laws.FnExactAddressOk", spec := "fnExactAddressOk", inPlace := ["internal/bytealg.IndexByteString", "internal/bytealg.IndexString"], named := ["internal/bytealg.MaxLen"], apart := false }
def FnExactAddressOkSaid : Prop := fnExactAddressOkRow.holds Try.pinned (OpenSpec.ofChange fnExactAddressOkSpec)

/-- ITS FALSE NEIGHBOUR: 'it returns false'. Refute it at one input. -/
def fnExactAddressOkWrong : ChangeSpec := { name := "fnExactAddressOk", fn := fun _ => fun
  | [d] => { results := [.lit (.bool false)], args := [d] }
  | _ => none }
def FnExactAddressOkWrongFalsely : Prop := fnExactAddressOkRow.holds Try.pinned (OpenSpec.ofChange fnExactAddressOkWrong)

/-- 'laws.FnExactAddress': WHATEVER THE INPUT: true; the input reads as it did. -/
def fnExactAddressSpec : ChangeSpec := { name := "fnExactAddress", fn := fun _ => fun
  | [d1, d2, d3] => { results := [.lit (.bool true)], args := [d1, d2, d3] }
  | _ => none }
def fnExactAddressRow : OpenClaim := { program := "ytklinldidfdnjaa", sum := "3c475e954706aac214a9a305474536efea07d5d1ba19cf2d3239f68a7cf5bb78", func := "loop.example/g00023/laws.FnExactAddress", spec := "fnExactAddress", inPlace := ["internal/bytealg.IndexByteString", "internal/bytealg.IndexString"], named := ["internal/bytealg.MaxLen"], apart := false }
def FnExactAddressSaid : Prop := fnExactAddressRow.holds Try.pinned (OpenSpec.ofChange fnExactAddressSpec)

/-- ITS FALSE NEIGHBOUR: 'it returns false'. Refute it at one input. -/
def fnExactAddressWrong : ChangeSpec := { name := "fnExactAddress", fn := fun _ => fun
  | [d1, d2, d3] => { results := [.lit (.bool false)], args := [d1, d2, d3] }
  | _ => none }
def FnExactAddressWrongFalsely : Prop := fnExactAddressRow.holds Try.pinned (OpenSpec.ofChange fnExactAddressWrong)

/-- 'laws.FnWordBack': WHATEVER THE INPUT: true; the input reads as it did. -/
def fnWordBackSpec : ChangeSpec := { name := "fnWordBack", fn := fun _ => fun
  | [d] => { results := [.lit (.bool true)], args := [d] }
  | _ => none }
def fnWordBackRow : OpenClaim := { program := "ytklinldidfdnjaa", sum := "3c475e954706aac214a9a305474536efea07d5d1ba19cf2d3239f68a7cf5bb78", func := "loop.example/g00023/laws.FnWordBack", spec := "fnWordBack", inPlace := ["internal/bytealg.IndexByteString", "internal/bytealg.IndexString"], named := ["internal/bytealg.MaxLen"], apart := false }
def FnWordBackSaid : Prop := fnWordBackRow.holds Try.pinned (OpenSpec.ofChange fnWordBackSpec)

/-- ITS FALSE NEIGHBOUR: 'it returns false'. Refute it at one input. -/
def fnWordBackWrong : ChangeSpec := { name := "fnWordBack", fn := fun _ => fun
  | [d] => { results := [.lit (.bool false)], args := [d] }
  | _ => none }
def FnWordBackWrongFalsely : Prop := fnWordBackRow.holds Try.pinned (OpenSpec.ofChange fnWordBackWrong)

/-- 'laws.FnExactShowText': WHATEVER THE INPUT: true; the input reads as it did. -/
def fnExactShowTextSpec : ChangeSpec := { name := "fnExactShowText", fn := fun _ => fun
  | [d] => { results := [.lit (.bool true)], args := [d] }
  | _ => none }
def fnExactShowTextRow : OpenClaim := { program := "ytklinldidfdnjaa", sum := "3c475e954706aac214a9a305474536efea07d5d1ba19cf2d3239f68a7cf5bb78", func := "loop.example/g00023/laws.FnExactShowText", spec := "fnExactShowText", inPlace := ["sync/atomic.LoadUint32", "(*internal/sync.Mutex).Lock", "internal/race.Disable", "sync/atomic.CompareAndSwapInt32", "internal/race.Enable", "internal/race.Acquire", "(*internal/sync.Mutex).lockSlow", "internal/sync.runtime_canSpin", "internal/sync.runtime_doSpin", "internal/sync.throw", "internal/sync.runtime_nanotime", "internal/sync.runtime_SemacquireMutex", "sync/atomic.AddInt32", "(*internal/sync.Mutex).Unlock", "internal/race.ReleaseMerge", "(*internal/sync.Mutex).unlockSlow", "internal/sync.fatal", "internal/sync.runtime_Semrelease", "sync/atomic.StoreUint32"], unfollowed := true, recurses := true, apart := false }
def FnExactShowTextSaid : Prop := fnExactShowTextRow.holds Try.pinned (OpenSpec.ofChange fnExactShowTextSpec)

/-- ITS FALSE NEIGHBOUR: 'it returns false'. Refute it at one input. -/
def fnExactShowTextWrong : ChangeSpec := { name := "fnExactShowText", fn := fun _ => fun
  | [d] => { results := [.lit (.bool false)], args := [d] }
  | _ => none }
def FnExactShowTextWrongFalsely : Prop := fnExactShowTextRow.holds Try.pinned (OpenSpec.ofChange fnExactShowTextWrong)

/-- 'laws.FnExactDrvOk': WHATEVER THE INPUT: true; the input reads as it did. -/
def fnExactDrvOkSpec : ChangeSpec := { name := "fnExactDrvOk", fn := fun _ => fun
  | [d] => { results := [.lit (.bool true)], args := [d] }
  | _ => none }
def fnExactDrvOkRow : OpenClaim := { program := "ytklinldidfdnjaa", sum := "3c475e954706aac214a9a305474536efea07d5d1ba19cf2d3239f68a7cf5bb78", func := "loop.example/g00023/laws.FnExactDrvOk", spec := "fnExactDrvOk", inPlace := ["internal/bytealg.IndexByteString", "internal/bytealg.IndexString"], named := ["internal/bytealg.MaxLen"], apart := false }
def FnExactDrvOkSaid : Prop := fnExactDrvOkRow.holds Try.pinned (OpenSpec.ofChange fnExactDrvOkSpec)

/-- ITS FALSE NEIGHBOUR: 'it returns false'. Refute it at one input. -/
def fnExactDrvOkWrong : ChangeSpec := { name := "fnExactDrvOk", fn := fun _ => fun
  | [d] => { results := [.lit (.bool false)], args := [d] }
  | _ => none }
def FnExactDrvOkWrongFalsely : Prop := fnExactDrvOkRow.holds Try.pinned (OpenSpec.ofChange fnExactDrvOkWrong)

/- THE SECOND FORM. 'bulk': how many values and letters a reading holds, each counted each time it is reached (what is shared counts as often as it is met; a slice's spare places count too). A statement '..UptoSaid' is the law's where the arguments, and the package variables that the reading takes, are together of bulk at most 1048576: NARROWER than '..Said'. Prove '..Said' where nothing that the law and all that it calls make is longer than what came in: it says more and counts as full. Else prove '..UptoSaid'. A law counts once. -/
mutual
def uptoBulk {H : Type} : DataW H → Nat
  | .lit (.string bytes) => bytes.length + 1
  | .lit _ => 1
  | .nil => 1
  | .ptr d => uptoBulk d + 1
  | .slice elems spare => uptoBulkAll elems + uptoBulkAll spare + 1
  | .agg parts => uptoBulkAll parts + 1
  | .iface _ d => uptoBulk d + 1
  | .map entries => uptoBulkEntries entries + 1
  | .held _ => 1
def uptoBulkAll {H : Type} : List (DataW H) → Nat
  | [] => 0
  | d :: r => uptoBulk d + uptoBulkAll r
def uptoBulkEntries {H : Type} : List (Lit × DataW H) → Nat
  | [] => 0
  | x :: r => uptoBulkEntry x + uptoBulkEntries r
def uptoBulkEntry {H : Type} : Lit × DataW H → Nat
  | (.string bytes, d) => bytes.length + uptoBulk d + 1
  | (_, d) => uptoBulk d + 1
 end
def uptoSmall : (H : Type) → List (DataW H) → Bool := fun _ ds => decide (uptoBulkAll ds ≤ 1048576)
def OpenSpec.upto (s : _root_.Go.ChangeSpec) : _root_.Go.OpenSpec := { _root_.Go.OpenSpec.ofChange s with cond := some uptoSmall }

/-- 'laws.FnExactAddressOk', WHERE WHAT IT READS IS OF BULK AT MOST 1048576: true; the input reads as it did. -/
def fnExactAddressOkUptoRow : OpenClaim := { program := "ytklinldidfdnjaa", sum := "3c475e954706aac214a9a305474536efea07d5d1ba19cf2d3239f68a7cf5bb78", func := "loop.example/g00023/laws.FnExactAddressOk", spec := "fnExactAddressOk", inPlace := ["internal/bytealg.IndexByteString", "internal/bytealg.IndexString"], named := ["internal/bytealg.MaxLen"], apart := false, narrowed := true }
def FnExactAddressOkUptoSaid : Prop := fnExactAddressOkUptoRow.holds Try.pinned (OpenSpec.upto fnExactAddressOkSpec)

/-- 'laws.FnExactAddress', WHERE WHAT IT READS IS OF BULK AT MOST 1048576: true; the input reads as it did. -/
def fnExactAddressUptoRow : OpenClaim := { program := "ytklinldidfdnjaa", sum := "3c475e954706aac214a9a305474536efea07d5d1ba19cf2d3239f68a7cf5bb78", func := "loop.example/g00023/laws.FnExactAddress", spec := "fnExactAddress", inPlace := ["internal/bytealg.IndexByteString", "internal/bytealg.IndexString"], named := ["internal/bytealg.MaxLen"], apart := false, narrowed := true }
def FnExactAddressUptoSaid : Prop := fnExactAddressUptoRow.holds Try.pinned (OpenSpec.upto fnExactAddressSpec)

/-- 'laws.FnWordBack', WHERE WHAT IT READS IS OF BULK AT MOST 1048576: true; the input reads as it did. -/
def fnWordBackUptoRow : OpenClaim := { program := "ytklinldidfdnjaa", sum := "3c475e954706aac214a9a305474536efea07d5d1ba19cf2d3239f68a7cf5bb78", func := "loop.example/g00023/laws.FnWordBack", spec := "fnWordBack", inPlace := ["internal/bytealg.IndexByteString", "internal/bytealg.IndexString"], named := ["internal/bytealg.MaxLen"], apart := false, narrowed := true }
def FnWordBackUptoSaid : Prop := fnWordBackUptoRow.holds Try.pinned (OpenSpec.upto fnWordBackSpec)

/-- 'laws.FnExactShowText', WHERE WHAT IT READS IS OF BULK AT MOST 1048576: true; the input reads as it did. -/
def fnExactShowTextUptoRow : OpenClaim := { program := "ytklinldidfdnjaa", sum := "3c475e954706aac214a9a305474536efea07d5d1ba19cf2d3239f68a7cf5bb78", func := "loop.example/g00023/laws.FnExactShowText", spec := "fnExactShowText", inPlace := ["sync/atomic.LoadUint32", "(*internal/sync.Mutex).Lock", "internal/race.Disable", "sync/atomic.CompareAndSwapInt32", "internal/race.Enable", "internal/race.Acquire", "(*internal/sync.Mutex).lockSlow", "internal/sync.runtime_canSpin", "internal/sync.runtime_doSpin", "internal/sync.throw", "internal/sync.runtime_nanotime", "internal/sync.runtime_SemacquireMutex", "sync/atomic.AddInt32", "(*internal/sync.Mutex).Unlock", "internal/race.ReleaseMerge", "(*internal/sync.Mutex).unlockSlow", "internal/sync.fatal", "internal/sync.runtime_Semrelease", "sync/atomic.StoreUint32"], unfollowed := true, recurses := true, apart := false, narrowed := true }
def FnExactShowTextUptoSaid : Prop := fnExactShowTextUptoRow.holds Try.pinned (OpenSpec.upto fnExactShowTextSpec)

/-- 'laws.FnExactDrvOk', WHERE WHAT IT READS IS OF BULK AT MOST 1048576: true; the input reads as it did. -/
def fnExactDrvOkUptoRow : OpenClaim := { program := "ytklinldidfdnjaa", sum := "3c475e954706aac214a9a305474536efea07d5d1ba19cf2d3239f68a7cf5bb78", func := "loop.example/g00023/laws.FnExactDrvOk", spec := "fnExactDrvOk", inPlace := ["internal/bytealg.IndexByteString", "internal/bytealg.IndexString"], named := ["internal/bytealg.MaxLen"], apart := false, narrowed := true }
def FnExactDrvOkUptoSaid : Prop := fnExactDrvOkUptoRow.holds Try.pinned (OpenSpec.upto fnExactDrvOkSpec)

end Rows
end Go.Proofs.Ytklinldidfdnjaa
