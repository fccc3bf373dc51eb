-- Laid by a program of this session: a turned copy of the kit's print, with contracts by hand beside.
import Derived.Test.YtklinldidfdnjaaProg
import Derived.Below
import Derived.Deep.Draws
import Derived.Deep.AppendLies
import Derived.Maps.AppendAt
import Derived.OwnWalk
import Derived.Laws.BytesArg
import Derived.Laws.MakeOwn
import Derived.Laws.OwnMore
import Derived.Deep.OwnRows
import Derived.Tactics
import Derived.Lib.ConvBytes
import Derived.Laws.Slices
import Derived.WalkKit
import Derived.KernelRfl
import Derived.RowKit3
import Derived.Deep.LoopGhost
import Derived.Deep.QuietTactic
import Derived.BigQuiet
import Derived.WideLaws
import Derived.Deep.DeepCutAuto
import Derived.Deep.CutBlock
import Derived.Deep.RegionHeld3
import Derived.Laws.Rows
import Derived.Lib.AppendStr
import Derived.ArgAppend
import Derived.Laws.IdiomCopy
import Derived.OrdersHeld
import Derived.Laws.BitsLemmas
import Derived.RowKit
import Derived.Lib.Strings
import Derived.Lib.Slices
import Derived.Lib.Walk
import Derived.Lib.Bytealg
import Derived.Laws.Runes
import Derived.WalkMore
import Derived.Lib.Small
import Derived.Lib.BitFns
import Derived.Lib.Mul64
import Derived.Test.YtklinldidfdnjaaHSteps
import Derived.Test.YtklinldidfdnjaaHShort
import Derived.Laws.Cover1
import Derived.Laws.Cover2
import Derived.Test.YtklinldidfdnjaaHBytes
import Derived.Test.YtklinldidfdnjaaHRowB
import Derived.Test.YtklinldidfdnjaaHWalk
import Derived.Test.YtklinldidfdnjaaWWords
import Derived.Test.YtklinldidfdnjaaWLast
import Derived.Test.YtklinldidfdnjaaWTab
import Derived.Test.YtklinldidfdnjaaWFour
import Derived.Test.YtklinldidfdnjaaWQPut
import Derived.Test.YtklinldidfdnjaaWApart
import Derived.Test.YtklinldidfdnjaaWArr
import Derived.Test.YtklinldidfdnjaaWZeros
import Derived.Test.YtklinldidfdnjaaWFoot
import Derived.Test.YtklinldidfdnjaaWKept
import Derived.Test.YtklinldidfdnjaaWShare
import Derived.Test.YtklinldidfdnjaaWN
import Derived.Test.YtklinldidfdnjaaWFootNe
import Derived.Test.YtklinldidfdnjaaWAt
import Derived.Test.YtklinldidfdnjaaWEqStruct
import Derived.Test.YtklinldidfdnjaaWRepsOne
import Derived.Test.YtklinldidfdnjaaWInv
import Derived.Test.YtklinldidfdnjaaWInvWords
import Derived.Test.YtklinldidfdnjaaWGuard
import Derived.Test.YtklinldidfdnjaaWNEv
import Derived.Test.YtklinldidfdnjaaWMore
import Derived.Test.YtklinldidfdnjaaWSized
namespace Go.Proofs.Ytklinldidfdnjaa.PFnWordBack
open Go.RowKit Go.Proofs.YtklinldidfdnjaaW.PrintWords Go.Proofs.YtklinldidfdnjaaW.PrintLast Go.Proofs.YtklinldidfdnjaaW.PrintMore
attribute [local go_sem] max2_int min2_int max_two min_two max_three min_three max_four min_four   -- for this text's walks alone
set_option linter.unusedVariables false
set_option linter.unusedSimpArgs false



def errW : Option Int → Value
  | none => .nilIface
  | some c => .iface 0 (.int .i64 c)
theorem errW_none : errW none = .nilIface := rfl
theorem errW_some (c : Int) : errW (some c) = .iface 0 (.int .i64 c) := rfl

theorem info5 : (Try.prog.info? 5).map (fun i => (i.zero, i.size, i.bytes)) = some (some (.int .u8 0), 1, 1) := by kernel_rfl
theorem info9 : (Try.prog.info? 9).map (fun i => (i.zero, i.size, i.bytes)) = some (some (.string ⟨#[]⟩), 1, 16) := by kernel_rfl
theorem info29 : (Try.prog.info? 29).map (fun i => (i.zero, i.size, i.bytes)) = some (some (.int .u64 0), 1, 8) := by kernel_rfl
-- the values' own types
def rd_L3 (xs : List (List Int)) (i : Int) : (List Int) := xs.getD i.toNat ([] : List Int)
theorem at_L3 {w : World} {A : Option Addr} {n : Nat} {xs : List (List Int)} (h : Kd.C (Kd.slice 5 (Kd.int .u8)) w A n xs) (i : Int) (h0 : 0 ≤ i) (h1 : i < n) : ∃ ad A0 c0, A = some ad ∧ w.cell? (ad.add i.toNat) = some (.slice A0 (rd_L3 xs i).length c0) ∧ (rd_L3 xs i).length ≤ c0 ∧ (Kd.int .u8).C w A0 (rd_L3 xs i).length (rd_L3 xs i) := by
  obtain ⟨ad, c, e, _, hK, hc0⟩ := Kd.C_get h ([] : List Int) i h0 h1
  have hc : ∀ j u, c[j]? = some u → w.cell? (ad.add (i.toNat * 1 + j)) = some u := hc0
  obtain ⟨A0, c0, rfl, l0, g0⟩ := hK
  exact ⟨ad, A0, c0, e, by have hq := hc 0 _ rfl; rwa [Nat.mul_one, Nat.add_zero] at hq, l0, g0⟩

end Go.Proofs.Ytklinldidfdnjaa.PFnWordBack
