-- Laid by a program of this session: a turned copy of the kit's print, with contracts by hand beside.
import Derived.Test.YtklinldidfdnjaaPFnExactDrvOkx0
import Derived.Test.YtklinldidfdnjaaPFnExactDrvOkx2
namespace Go.Proofs.Ytklinldidfdnjaa.PFnExactDrvOk
open Go.RowKit Go.Proofs.YtklinldidfdnjaaW.PrintWords Go.Proofs.YtklinldidfdnjaaW.PrintLast Go.Proofs.YtklinldidfdnjaaW.PrintMore
attribute [local go_sem] max2_int min2_int max_two min_two max_three min_three max_four min_four   -- for this text's walks alone
set_option linter.unusedVariables false
set_option linter.unusedSimpArgs false

/-! ### spec_l5Usual: function 50 -/
mutual
def spec_l5Usual.l0 : Nat → Int → ByteArray → ByteArray → List ByteArray → ByteArray → List (S73) → List (S75) → List ByteArray → Option (Bool)
 | 0, _, _, _, _, _, _, _, _ => none
 | k + 1, x3, x122000, x122001, x122002, x122003, x122004, x122005, x122006 => if x3 < (x122002.length : Int) then (if 0 ≤ x3 then ((spec_NameOk.f k (rdOf ByteArray.empty x122002 x3)).bind fun t123 => (if t123 = true then (if x3 > 0 then (if 0 ≤ (wrap64 (x3 - 1)) then (if (wrap64 (x3 - 1)) < (x122002.length : Int) then (if ((Op.bytesLess ((rdOf ByteArray.empty x122002 (wrap64 (x3 - 1))).toList) ((rdOf ByteArray.empty x122002 x3).toList)) = true) then (spec_l5Usual.l0 k (wrap64 (x3 + 1)) x122000 x122001 x122002 x122003 x122004 x122005 x122006) else (some false)) else (none)) else (none)) else (spec_l5Usual.l0 k (wrap64 (x3 + 1)) x122000 x122001 x122002 x122003 x122004 x122005 x122006)) else (some false))) else (none)) else (spec_l5Usual.l1 k 0 x122000 x122001 x122002 x122003 x122004 x122005 x122006)
def spec_l5Usual.l1 : Nat → Int → ByteArray → ByteArray → List ByteArray → ByteArray → List (S73) → List (S75) → List ByteArray → Option (Bool)
 | 0, _, _, _, _, _, _, _, _ => none
 | k + 1, x4, x122000, x122001, x122002, x122003, x122004, x122005, x122006 => if x4 < (x122006.length : Int) then (if 0 ≤ x4 then ((spec_AddressOk.f k (rdOf ByteArray.empty x122006 x4)).bind fun t127 => (if t127 = true then (if x4 > 0 then (if 0 ≤ (wrap64 (x4 - 1)) then (if (wrap64 (x4 - 1)) < (x122006.length : Int) then (if ((Op.bytesLess ((rdOf ByteArray.empty x122006 (wrap64 (x4 - 1))).toList) ((rdOf ByteArray.empty x122006 x4).toList)) = true) then (spec_l5Usual.l1 k (wrap64 (x4 + 1)) x122000 x122001 x122002 x122003 x122004 x122005 x122006) else (some false)) else (none)) else (none)) else (spec_l5Usual.l1 k (wrap64 (x4 + 1)) x122000 x122001 x122002 x122003 x122004 x122005 x122006)) else (some false))) else (none)) else (spec_l5Usual.l2 k 0 x122000 x122001 x122002 x122003 x122004 x122005 x122006)
def spec_l5Usual.l2 : Nat → Int → ByteArray → ByteArray → List ByteArray → ByteArray → List (S73) → List (S75) → List ByteArray → Option (Bool)
 | 0, _, _, _, _, _, _, _, _ => none
 | k + 1, x5, x122000, x122001, x122002, x122003, x122004, x122005, x122006 => if x5 < (x122004.length : Int) then (if 0 ≤ x5 then ((spec_NameOk.f k ((rd_T73 x122004 x5).f0)).bind fun t131 => (if t131 = true then (if x5 > 0 then (if 0 ≤ (wrap64 (x5 - 1)) then (if (wrap64 (x5 - 1)) < (x122004.length : Int) then (if ((Op.bytesLess (((rd_T73 x122004 (wrap64 (x5 - 1))).f0).toList) (((rd_T73 x122004 x5).f0).toList)) = true) then ((spec_l5TextOk.f k ((rd_T73 x122004 x5).f1)).bind fun t135 => (if t135 = true then (spec_l5Usual.l2 k (wrap64 (x5 + 1)) x122000 x122001 x122002 x122003 x122004 x122005 x122006) else (some false))) else (some false)) else (none)) else (none)) else ((spec_l5TextOk.f k ((rd_T73 x122004 x5).f1)).bind fun t137 => (if t137 = true then (spec_l5Usual.l2 k (wrap64 (x5 + 1)) x122000 x122001 x122002 x122003 x122004 x122005 x122006) else (some false)))) else (some false))) else (none)) else (spec_l5Usual.l3 k 0 x122000 x122001 x122002 x122003 x122004 x122005 x122006)
def spec_l5Usual.l3 : Nat → Int → ByteArray → ByteArray → List ByteArray → ByteArray → List (S73) → List (S75) → List ByteArray → Option (Bool)
 | 0, _, _, _, _, _, _, _, _ => none
 | k + 1, x6, x122000, x122001, x122002, x122003, x122004, x122005, x122006 => if x6 < (x122005.length : Int) then (if 0 ≤ x6 then ((spec_AddressOk.f k ((rd_T75 x122005 x6).f0)).bind fun t140 => (if t140 = true then ((spec_NameOk.f k ((rd_T75 x122005 x6).f1)).bind fun t141 => (if t141 = true then (if x6 > 0 then (if 0 ≤ (wrap64 (x6 - 1)) then (if (wrap64 (x6 - 1)) < (x122005.length : Int) then ((spec_l5UsesLess.f ((rd_T75 x122005 (wrap64 (x6 - 1))).f0) ((rd_T75 x122005 (wrap64 (x6 - 1))).f1) ((rd_T75 x122005 x6).f0) ((rd_T75 x122005 x6).f1)).bind fun t143 => (if t143 = true then (spec_l5Usual.l3 k (wrap64 (x6 + 1)) x122000 x122001 x122002 x122003 x122004 x122005 x122006) else (some false))) else (none)) else (none)) else (spec_l5Usual.l3 k (wrap64 (x6 + 1)) x122000 x122001 x122002 x122003 x122004 x122005 x122006)) else (some false))) else (some false))) else (none)) else (some true)
end
def spec_l5Usual.f (k : Nat) (a0_0 : ByteArray) (a0_1 : ByteArray) (l0_2 : List ByteArray) (a0_3 : ByteArray) (l0_4 : List (S73)) (l0_5 : List (S75)) (l0_6 : List ByteArray) : Option (Bool) := spec_l5Usual.l0 k 0 a0_0 a0_1 l0_2 a0_3 l0_4 l0_5 l0_6
theorem spec_l5Usual.mono_l : ∀ k, (∀ y0 y1 y2 y3 y4 y5 y6 y7, LeO (spec_l5Usual.l0 k y0 y1 y2 y3 y4 y5 y6 y7) (spec_l5Usual.l0 (k + 1) y0 y1 y2 y3 y4 y5 y6 y7)) ∧ (∀ y0 y1 y2 y3 y4 y5 y6 y7, LeO (spec_l5Usual.l1 k y0 y1 y2 y3 y4 y5 y6 y7) (spec_l5Usual.l1 (k + 1) y0 y1 y2 y3 y4 y5 y6 y7)) ∧ (∀ y0 y1 y2 y3 y4 y5 y6 y7, LeO (spec_l5Usual.l2 k y0 y1 y2 y3 y4 y5 y6 y7) (spec_l5Usual.l2 (k + 1) y0 y1 y2 y3 y4 y5 y6 y7)) ∧ (∀ y0 y1 y2 y3 y4 y5 y6 y7, LeO (spec_l5Usual.l3 k y0 y1 y2 y3 y4 y5 y6 y7) (spec_l5Usual.l3 (k + 1) y0 y1 y2 y3 y4 y5 y6 y7))
 | 0 => ⟨fun _ _ _ _ _ _ _ _ r h => by simp [spec_l5Usual.l0] at h, fun _ _ _ _ _ _ _ _ r h => by simp [spec_l5Usual.l1] at h, fun _ _ _ _ _ _ _ _ r h => by simp [spec_l5Usual.l2] at h, fun _ _ _ _ _ _ _ _ r h => by simp [spec_l5Usual.l3] at h⟩
 | k + 1 => by
  obtain ⟨ih0, ih1, ih2, ih3⟩ := spec_l5Usual.mono_l k
  refine ⟨?_, ?_, ?_, ?_⟩
  ·intro y0 y1 y2 y3 y4 y5 y6 y7
   unfold spec_l5Usual.l0
   repeat' first
   | (with_reducible exact ih0 _ _ _ _ _ _ _ _)
   | (with_reducible exact ih1 _ _ _ _ _ _ _ _)
   | (with_reducible exact ih2 _ _ _ _ _ _ _ _)
   | (with_reducible exact ih3 _ _ _ _ _ _ _ _)
   | (with_reducible exact spec_AddressOk.mono _ _)
   | (with_reducible exact spec_NameOk.mono _ _)
   | (with_reducible exact spec_l5TextOk.mono _ _)
   | (with_reducible exact LeO.refl _)
   | (with_reducible exact LeO.none _)
   | (with_reducible refine LeO.ite ?_ ?_)
   | (with_reducible refine LeO.bind ?_ (fun _ => ?_))
   | exact ih0 _ _ _ _ _ _ _ _
   | exact ih1 _ _ _ _ _ _ _ _
   | exact ih2 _ _ _ _ _ _ _ _
   | exact ih3 _ _ _ _ _ _ _ _
   | exact spec_AddressOk.mono _ _
   | exact spec_NameOk.mono _ _
   | exact spec_l5TextOk.mono _ _
   | exact LeO.none _
   | refine LeO.ite ?_ ?_
   | refine LeO.bind ?_ (fun _ => ?_)
  ·intro y0 y1 y2 y3 y4 y5 y6 y7
   unfold spec_l5Usual.l1
   repeat' first
   | (with_reducible exact ih0 _ _ _ _ _ _ _ _)
   | (with_reducible exact ih1 _ _ _ _ _ _ _ _)
   | (with_reducible exact ih2 _ _ _ _ _ _ _ _)
   | (with_reducible exact ih3 _ _ _ _ _ _ _ _)
   | (with_reducible exact spec_AddressOk.mono _ _)
   | (with_reducible exact spec_NameOk.mono _ _)
   | (with_reducible exact spec_l5TextOk.mono _ _)
   | (with_reducible exact LeO.refl _)
   | (with_reducible exact LeO.none _)
   | (with_reducible refine LeO.ite ?_ ?_)
   | (with_reducible refine LeO.bind ?_ (fun _ => ?_))
   | exact ih0 _ _ _ _ _ _ _ _
   | exact ih1 _ _ _ _ _ _ _ _
   | exact ih2 _ _ _ _ _ _ _ _
   | exact ih3 _ _ _ _ _ _ _ _
   | exact spec_AddressOk.mono _ _
   | exact spec_NameOk.mono _ _
   | exact spec_l5TextOk.mono _ _
   | exact LeO.none _
   | refine LeO.ite ?_ ?_
   | refine LeO.bind ?_ (fun _ => ?_)
  ·intro y0 y1 y2 y3 y4 y5 y6 y7
   unfold spec_l5Usual.l2
   repeat' first
   | (with_reducible exact ih0 _ _ _ _ _ _ _ _)
   | (with_reducible exact ih1 _ _ _ _ _ _ _ _)
   | (with_reducible exact ih2 _ _ _ _ _ _ _ _)
   | (with_reducible exact ih3 _ _ _ _ _ _ _ _)
   | (with_reducible exact spec_AddressOk.mono _ _)
   | (with_reducible exact spec_NameOk.mono _ _)
   | (with_reducible exact spec_l5TextOk.mono _ _)
   | (with_reducible exact LeO.refl _)
   | (with_reducible exact LeO.none _)
   | (with_reducible refine LeO.ite ?_ ?_)
   | (with_reducible refine LeO.bind ?_ (fun _ => ?_))
   | exact ih0 _ _ _ _ _ _ _ _
   | exact ih1 _ _ _ _ _ _ _ _
   | exact ih2 _ _ _ _ _ _ _ _
   | exact ih3 _ _ _ _ _ _ _ _
   | exact spec_AddressOk.mono _ _
   | exact spec_NameOk.mono _ _
   | exact spec_l5TextOk.mono _ _
   | exact LeO.none _
   | refine LeO.ite ?_ ?_
   | refine LeO.bind ?_ (fun _ => ?_)
  ·intro y0 y1 y2 y3 y4 y5 y6 y7
   unfold spec_l5Usual.l3
   repeat' first
   | (with_reducible exact ih0 _ _ _ _ _ _ _ _)
   | (with_reducible exact ih1 _ _ _ _ _ _ _ _)
   | (with_reducible exact ih2 _ _ _ _ _ _ _ _)
   | (with_reducible exact ih3 _ _ _ _ _ _ _ _)
   | (with_reducible exact spec_AddressOk.mono _ _)
   | (with_reducible exact spec_NameOk.mono _ _)
   | (with_reducible exact spec_l5TextOk.mono _ _)
   | (with_reducible exact LeO.refl _)
   | (with_reducible exact LeO.none _)
   | (with_reducible refine LeO.ite ?_ ?_)
   | (with_reducible refine LeO.bind ?_ (fun _ => ?_))
   | exact ih0 _ _ _ _ _ _ _ _
   | exact ih1 _ _ _ _ _ _ _ _
   | exact ih2 _ _ _ _ _ _ _ _
   | exact ih3 _ _ _ _ _ _ _ _
   | exact spec_AddressOk.mono _ _
   | exact spec_NameOk.mono _ _
   | exact spec_l5TextOk.mono _ _
   | exact LeO.none _
   | refine LeO.ite ?_ ?_
   | refine LeO.bind ?_ (fun _ => ?_)
theorem spec_l5Usual.mono : ∀ a0 a1 a2 a3 a4 a5 a6 k, LeO (spec_l5Usual.f k a0 a1 a2 a3 a4 a5 a6) (spec_l5Usual.f (k + 1) a0 a1 a2 a3 a4 a5 a6) := by
 intro a0 a1 a2 a3 a4 a5 a6 k
 obtain ⟨ih0, ih1, ih2, ih3⟩ := spec_l5Usual.mono_l k
 unfold spec_l5Usual.f
 repeat' first
   | (with_reducible exact ih0 _ _ _ _ _ _ _ _)
   | (with_reducible exact ih1 _ _ _ _ _ _ _ _)
   | (with_reducible exact ih2 _ _ _ _ _ _ _ _)
   | (with_reducible exact ih3 _ _ _ _ _ _ _ _)
   | (with_reducible exact spec_AddressOk.mono _ _)
   | (with_reducible exact spec_NameOk.mono _ _)
   | (with_reducible exact spec_l5TextOk.mono _ _)
   | (with_reducible exact LeO.refl _)
   | (with_reducible exact LeO.none _)
   | (with_reducible refine LeO.ite ?_ ?_)
   | (with_reducible refine LeO.bind ?_ (fun _ => ?_))
   | exact ih0 _ _ _ _ _ _ _ _
   | exact ih1 _ _ _ _ _ _ _ _
   | exact ih2 _ _ _ _ _ _ _ _
   | exact ih3 _ _ _ _ _ _ _ _
   | exact spec_AddressOk.mono _ _
   | exact spec_NameOk.mono _ _
   | exact spec_l5TextOk.mono _ _
   | exact LeO.none _
   | refine LeO.ite ?_ ?_
   | refine LeO.bind ?_ (fun _ => ?_)
def spec_l5Usual.T4 : Bool × List (List Nat × List Nat) := (true, [([], []), ([0], [0]), ([], []), ([1, 2], [1, 2]), ([3], [3]), ([4], [4]), ([5], [5]), ([6, 5], [6]), ([7], [7]), ([8, 7], [7, 8]), ([9, 7, 7], [7, 9]), ([10], [10]), ([11, 10], [10, 11]), ([10], [10]), ([13, 10], [10, 13]), ([12, 14, 10], [10, 12, 14]), ([15, 10], [10, 15]), ([10], [10]), ([17, 10], [10, 17]), ([10], [10]), ([18, 19, 10], [10, 18, 19]), ([20, 10], [10, 20]), ([16, 21, 10], [10, 16, 21]), ([10, 22, 7], [7, 10, 22]), ([7, 23], [7, 23])])
def spec_l5Usual.B4 : List Nat := [0, 1, 0, 7, 15, 31, 63, 127, 255, 511, 1023, 2047, 4095, 2047, 10239, 32767, 65535, 2047, 133119, 2047, 919551, 1968127, 4194303, 8388607, 16777215]
theorem spec_l5Usual.tab4 : rtab .any (opsOf Try.f50 4) = spec_l5Usual.T4 := by kernel_rfl
theorem spec_l5Usual.bits4 : waitsOk spec_l5Usual.T4.2 spec_l5Usual.B4 = true := by kernel_rfl
def spec_l5Usual.T9 : Bool × List (List Nat × List Nat) := (true, [([], []), ([0], [0]), ([], []), ([1, 2], [1, 2]), ([3], [3]), ([4], [4]), ([5], [5]), ([6, 5], [6]), ([7], [7]), ([8, 7], [7, 8]), ([9, 7, 7], [7, 9]), ([10], [10]), ([11, 10], [10, 11]), ([10], [10]), ([13, 10], [10, 13]), ([12, 14, 10], [10, 12, 14]), ([15, 10], [10, 15]), ([10], [10]), ([17, 10], [10, 17]), ([10], [10]), ([18, 19, 10], [10, 18, 19]), ([20, 10], [10, 20]), ([16, 21, 10], [10, 16, 21]), ([10, 22, 7], [7, 10, 22]), ([7, 23], [7, 23])])
def spec_l5Usual.B9 : List Nat := [0, 1, 0, 7, 15, 31, 63, 127, 255, 511, 1023, 2047, 4095, 2047, 10239, 32767, 65535, 2047, 133119, 2047, 919551, 1968127, 4194303, 8388607, 16777215]
theorem spec_l5Usual.tab9 : rtab .any (opsOf Try.f50 9) = spec_l5Usual.T9 := by kernel_rfl
theorem spec_l5Usual.bits9 : waitsOk spec_l5Usual.T9.2 spec_l5Usual.B9 = true := by kernel_rfl
def spec_l5Usual.T14 : Bool × List (List Nat × List Nat) := (true, [([], []), ([0], [0]), ([], []), ([1, 2], [1, 2]), ([3], [3]), ([4], [4]), ([5], [5]), ([6], [6]), ([7, 6], [7]), ([8], [8]), ([9, 8], [8, 9]), ([10, 8, 8], [8, 10]), ([11], [11]), ([12, 11], [11, 12]), ([11], [11]), ([14, 11], [11, 14]), ([13, 15, 11], [11, 13, 15]), ([16, 11], [11, 16]), ([17, 11], [11, 17]), ([11], [11]), ([19, 11], [11, 19]), ([11], [11]), ([20, 21, 11], [11, 20, 21]), ([22, 11], [11, 22]), ([23, 11], [11, 23]), ([18, 24, 11], [11, 18, 24]), ([11, 25, 8], [8, 11, 25]), ([8, 26], [8, 26]), ([27, 11], [27]), ([28], [28]), ([29, 28], [28, 29]), ([28], [28]), ([30, 31, 28], [28, 30, 31]), ([32, 28], [28, 32]), ([33, 28], [28, 33]), ([34, 28, 28], [28, 34]), ([35, 28], [28, 35]), ([28, 36], [28, 36])])
def spec_l5Usual.B14 : List Nat := [0, 1, 0, 7, 15, 31, 63, 127, 255, 511, 1023, 2047, 4095, 8191, 4095, 20479, 65535, 131071, 262143, 4095, 528383, 4095, 3674111, 7868415, 16257023, 33554431, 67108863, 134217727, 268435455, 536870911, 1073741823, 536870911, 4294967295, 8589934591, 17179869183, 34359738367, 68719476735, 137438953471]
theorem spec_l5Usual.tab14 : rtab .any (opsOf Try.f50 14) = spec_l5Usual.T14 := by kernel_rfl
theorem spec_l5Usual.bits14 : waitsOk spec_l5Usual.T14.2 spec_l5Usual.B14 = true := by kernel_rfl
def spec_l5Usual.T20 : Bool × List (List Nat × List Nat) := (true, [([], []), ([0], [0]), ([1], [1]), ([2], [2]), ([3, 2], [3]), ([4], [4]), ([5, 4], [4, 5]), ([6, 4, 4], [4, 6]), ([7, 4], [4, 7]), ([4, 8], [4, 8]), ([9, 7], [9]), ([10], [10]), ([11, 10], [10, 11]), ([12, 10, 10], [10, 12]), ([13], [13]), ([14, 13], [13, 14]), ([13], [13]), ([16, 13], [13, 16]), ([15, 17, 13], [13, 15, 17]), ([18, 13], [13, 18]), ([13], [13]), ([19, 20, 13, 13], [13, 19, 20]), ([21, 13], [13, 21]), ([13, 22, 10], [10, 13, 22]), ([10, 23], [10, 23])])
def spec_l5Usual.B20 : List Nat := [0, 1, 3, 7, 15, 31, 63, 127, 255, 511, 1023, 2047, 4095, 8191, 16383, 32767, 16383, 81919, 262143, 524287, 16383, 2097151, 4194303, 8388607, 16777215]
theorem spec_l5Usual.tab20 : rtab .any (opsOf Try.f50 20) = spec_l5Usual.T20 := by kernel_rfl
theorem spec_l5Usual.bits20 : waitsOk spec_l5Usual.T20.2 spec_l5Usual.B20 = true := by kernel_rfl
set_option maxHeartbeats 8000000 in
set_option maxRecDepth 100000 in
theorem spec_l5Usual.calls (k : Nat) (a0_0 : ByteArray) (a0_1 : ByteArray) (A0_2 : Option Addr) (c0_2 : Nat) (l0_2 : List ByteArray) (a0_3 : ByteArray) (A0_4 : Option Addr) (c0_4 : Nat) (l0_4 : List (S73)) (A0_5 : Option Addr) (c0_5 : Nat) (l0_5 : List (S75)) (A0_6 : Option Addr) (c0_6 : Nat) (l0_6 : List ByteArray) (r : Bool) (w : World) (hr0_2 : Kd.C Kd.string w A0_2 l0_2.length l0_2) (hc0_2 : l0_2.length ≤ c0_2) (hr0_4 : Kd.C k73 w A0_4 l0_4.length l0_4) (hc0_4 : l0_4.length ≤ c0_4) (hr0_5 : Kd.C k75 w A0_5 l0_5.length l0_5) (hc0_5 : l0_5.length ≤ c0_5) (hr0_6 : Kd.C Kd.string w A0_6 l0_6.length l0_6) (hc0_6 : l0_6.length ≤ c0_6) (h : spec_l5Usual.f k a0_0 a0_1 l0_2 a0_3 l0_4 l0_5 l0_6 = some r) :
  Calls Try.prog 50 #[.agg #[.string a0_0, .string a0_1, .slice A0_2 l0_2.length c0_2, .string a0_3, .slice A0_4 l0_4.length c0_4, .slice A0_5 l0_5.length c0_5, .slice A0_6 l0_6.length c0_6]] w fun e w' => e = .returned (.bool r) ∧ Below w.heap.size w w' := by
 have hu48 := Try.underlying48
 have hu75 := Try.underlying75
 have HR0_2 := Aside0.mk hr0_2
 have HC0_2 := Aside0.mk hc0_2
 clear hr0_2 hc0_2
 have HR0_4 := Aside0.mk hr0_4
 have HC0_4 := Aside0.mk hc0_4
 clear hr0_4 hc0_4
 have HR0_5 := Aside0.mk hr0_5
 have HC0_5 := Aside0.mk hc0_5
 clear hr0_5 hc0_5
 have HR0_6 := Aside0.mk hr0_6
 have HC0_6 := Aside0.mk hc0_6
 clear hr0_6 hc0_6
 have HB := Aside0.mk (Below.refl w.heap.size w)
 have H : (spec_l5Usual.l0 k 0 a0_0 a0_1 l0_2 a0_3 l0_4 l0_5 l0_6) = some r := h
 clear h
 have H' := Aside0.mk H
 clear H
 go_enter Try.func50, Try.ntmps50
 go_wp2_with (first | ((with_reducible refine gate_dst (N := 1) rfl ?_); refine box_event ?hg (N := 1) ?hd (cs := #[.string a0_0, .string a0_1, .slice A0_2 l0_2.length c0_2, .string a0_3, .slice A0_4 l0_4.length c0_4, .slice A0_5 l0_5.length c0_5, .slice A0_6 l0_6.length c0_6]) (t := 48) ?hr ?_; (case hd => rfl); (case hg => rfl); (case hr => first | (go_simp; done) | (go_simp; rfl)); intro gb121 hg w2 hbox hb; have n0_ := Aside0.mk (below_step qB hb); have n1_ := Aside0.mk (hbox); have n2_ := Aside0.mk ((by rw [hg]; exact (below_size qB) : w.heap.size ≤ gb121)); have n3_ := Aside0.mk ((by rw [hg]; exact (below_size qB) : w.heap.size ≤ gb121)); clear HB; have HB := n0_; have BK121 := n1_; have GW121 := n2_; have GE121 := n3_; clear n0_ n1_ n2_ n3_; clear hb hbox hg))
 go_loopg [3] k (fun kq v3 w' => ∃ (x3_1 : Int), v3 = .int .i64 x3_1 ∧ Aside0 (spec_l5Usual.l0 kq x3_1 a0_0 a0_1 l0_2 a0_3 l0_4 l0_5 l0_6 = some r) ∧ Aside0 (kq ≤ k) ∧ Aside0 (w'.heap[gb121]? = some (.cells #[.string a0_0, .string a0_1, (.slice A0_2 l0_2.length c0_2), .string a0_3, (.slice A0_4 l0_4.length c0_4), (.slice A0_5 l0_5.length c0_5), (.slice A0_6 l0_6.length c0_6)] 48 (0, 0))) ∧ Aside0 (Below w.heap.size w w'))
 case atStart => exact ⟨(0), (by first | rfl | (simp; done) | (simp [*]; done)), H', ⟨Nat.le_refl _⟩, ⟨by (with_reducible repeat (first | refine blk_drewN ?_ _ | refine blk_drew ?_ | refine blk_alloc ?_ _)); exact BK121.out⟩, ⟨by repeat (first | (with_reducible first | exact HB.out | apply below_alloc | apply pw_below_drewN | apply below_drew1 | refine below_set ?_ GE121.out) | exact HB.out)⟩⟩
 case round =>
  clear H'
  try clear p2
  obtain ⟨x3_1, rfl, HA, HK1, BK121, HB⟩ := hrel
  cases gk with
  | zero => exact absurd HA.out (by simp [spec_l5Usual.l0])
  | succ k1 =>
   have H := HA.out
   clear HA
   simp only [spec_l5Usual.l0] at H
   by_cases c3 : x3_1 < (l0_2.length : Int)
   ·rw [if_pos c3] at H
    have c3b0 : decide (x3_1 < (l0_2.length : Int)) = true := decide_eq_true c3
    clear c3
    by_cases c4 : 0 ≤ x3_1
    ·rw [if_pos c4] at H
     have c4b0 : decide (0 ≤ x3_1) = true := decide_eq_true c4
     clear c4
     replace H := Option.bind_eq_some_iff.mp H
     obtain ⟨t123, A50, H⟩ := H
     replace H : (if t123 = true then (if x3_1 > 0 then (if 0 ≤ (wrap64 (x3_1 - 1)) then (if (wrap64 (x3_1 - 1)) < (l0_2.length : Int) then (if ((Op.bytesLess ((rdOf ByteArray.empty l0_2 (wrap64 (x3_1 - 1))).toList) ((rdOf ByteArray.empty l0_2 x3_1).toList)) = true) then (spec_l5Usual.l0 k1 (wrap64 (x3_1 + 1)) a0_0 a0_1 l0_2 a0_3 l0_4 l0_5 l0_6) else (some false)) else (none)) else (none)) else (spec_l5Usual.l0 k1 (wrap64 (x3_1 + 1)) a0_0 a0_1 l0_2 a0_3 l0_4 l0_5 l0_6)) else (some false)) = some r := H
     have A5 := Aside0.mk A50
     clear A50
     by_cases c6 : t123 = true
     ·subst c6
      have H1 : (if x3_1 > 0 then (if 0 ≤ (wrap64 (x3_1 - 1)) then (if (wrap64 (x3_1 - 1)) < (l0_2.length : Int) then (if ((Op.bytesLess ((rdOf ByteArray.empty l0_2 (wrap64 (x3_1 - 1))).toList) ((rdOf ByteArray.empty l0_2 x3_1).toList)) = true) then (spec_l5Usual.l0 k1 (wrap64 (x3_1 + 1)) a0_0 a0_1 l0_2 a0_3 l0_4 l0_5 l0_6) else (some false)) else (none)) else (none)) else (spec_l5Usual.l0 k1 (wrap64 (x3_1 + 1)) a0_0 a0_1 l0_2 a0_3 l0_4 l0_5 l0_6)) = some r := by rw [if_pos rfl] at H; exact H
      clear H
      have H := H1
      clear H1
      by_cases c7 : x3_1 > 0
      ·rw [if_pos c7] at H
       have c7b0 : decide (0 < x3_1) = true := decide_eq_true c7
       clear c7
       obtain ⟨ji8, hji8⟩ : ∃ j_ : Int, (wrap64 (x3_1 - 1)) = j_ := ⟨_, rfl⟩
       replace H : (if 0 ≤ (ji8) then (if (ji8) < (l0_2.length : Int) then (if ((Op.bytesLess ((rdOf ByteArray.empty l0_2 (ji8)).toList) ((rdOf ByteArray.empty l0_2 x3_1).toList)) = true) then (spec_l5Usual.l0 k1 (wrap64 (x3_1 + 1)) a0_0 a0_1 l0_2 a0_3 l0_4 l0_5 l0_6) else (some false)) else (none)) else (none)) = some r := by first | (rw [hji8] at H; exact H) | (simp only [hji8] at H ⊢; exact H)
       (try rw [hji8] at A5)
       have hji8w : (IntKind.i64.wrap (x3_1 - 1)) = ji8 := (i64_w _).trans hji8
       by_cases c9 : 0 ≤ (ji8)
       ·rw [if_pos c9] at H
        have c9b0 : decide (0 ≤ (ji8)) = true := decide_eq_true c9
        clear c9
        by_cases c10 : (ji8) < (l0_2.length : Int)
        ·rw [if_pos c10] at H
         have c10b0 : decide ((ji8) < (l0_2.length : Int)) = true := decide_eq_true c10
         clear c10
         by_cases c11 : ((Op.bytesLess ((rdOf ByteArray.empty l0_2 (ji8)).toList) ((rdOf ByteArray.empty l0_2 x3_1).toList)) = true)
         ·rw [if_pos c11] at H
          have c11b0 : (Op.bytesLess ((rdOf ByteArray.empty l0_2 (ji8)).toList) ((rdOf ByteArray.empty l0_2 x3_1).toList)) = true := c11
          clear c11
          have H' := Aside0.mk H
          clear H
          have hcz12_0 : wr.cell? ⟨gb121, 0, none⟩ = some (.string a0_0) := (blk_cell BK121.out 0).trans rfl
          have hcz12_1 : wr.cell? ⟨gb121, 1, none⟩ = some (.string a0_1) := (blk_cell BK121.out 1).trans rfl
          have hcz12_2 : wr.cell? ⟨gb121, 2, none⟩ = some (.slice A0_2 l0_2.length c0_2) := (blk_cell BK121.out 2).trans rfl
          have hcz12_3 : wr.cell? ⟨gb121, 3, none⟩ = some (.string a0_3) := (blk_cell BK121.out 3).trans rfl
          have hcz12_4 : wr.cell? ⟨gb121, 4, none⟩ = some (.slice A0_4 l0_4.length c0_4) := (blk_cell BK121.out 4).trans rfl
          have hcz12_5 : wr.cell? ⟨gb121, 5, none⟩ = some (.slice A0_5 l0_5.length c0_5) := (blk_cell BK121.out 5).trans rfl
          have hcz12_6 : wr.cell? ⟨gb121, 6, none⟩ = some (.slice A0_6 l0_6.length c0_6) := (blk_cell BK121.out 6).trans rfl
          have hfz12_0 := blk_frozen BK121.out 0
          have hfz12_1 := blk_frozen BK121.out 1
          have hfz12_2 := blk_frozen BK121.out 2
          have hfz12_3 := blk_frozen BK121.out 3
          have hfz12_4 := blk_frozen BK121.out 4
          have hfz12_5 := blk_frozen BK121.out 5
          have hfz12_6 := blk_frozen BK121.out 6
          try go_wp2
          have n0_ := Aside0.mk (blk_drew BK121.out)
          have n1_ := Aside0.mk (below_drew1 HB.out)
          clear BK121
          clear HB
          have BK121 := n0_
          have HB := n1_
          clear n0_ n1_
          have p122 : 0 ≤ (x3_1 : Int) := of_decide_eq_true (by first | (with_reducible assumption) | assumption)
          have q122 : x3_1 < (l0_2.length : Int) := of_decide_eq_true (by first | (with_reducible assumption) | assumption)
          obtain ⟨ad122, e122, hx122_0⟩ := Kd.at_string HR0_2.out x3_1 p122 q122
          have hw122_0 := hx122_0
          cases e122
          replace hx122_0 := (HB.out.cell (World.block_lt_of_cell? w _ hx122_0)).trans hx122_0
          replace p122 := eq_true p122
          replace q122 := eq_true q122
          have p124 : 0 ≤ ((ji8) : Int) := of_decide_eq_true (by first | (with_reducible assumption) | assumption)
          have q124 : (ji8) < (l0_2.length : Int) := of_decide_eq_true (by first | (with_reducible assumption) | assumption)
          obtain ⟨ad124, e124, hx124_0⟩ := Kd.at_string HR0_2.out (ji8) p124 q124
          have hw124_0 := hx124_0
          obtain rfl : ad122 = ad124 := (by injection e124)
          replace hx124_0 := (HB.out.cell (World.block_lt_of_cell? w _ hx124_0)).trans hx124_0
          replace p124 := eq_true p124
          replace q124 := eq_true q124
          have p125 : 0 ≤ (x3_1 : Int) := of_decide_eq_true (by first | (with_reducible assumption) | assumption)
          have q125 : x3_1 < (l0_2.length : Int) := of_decide_eq_true (by first | (with_reducible assumption) | assumption)
          obtain ⟨ad125, e125, hx125_0⟩ := Kd.at_string HR0_2.out x3_1 p125 q125
          have hw125_0 := hx125_0
          obtain rfl : ad122 = ad125 := (by injection e125)
          replace hx125_0 := (HB.out.cell (World.block_lt_of_cell? w _ hx125_0)).trans hx125_0
          replace p125 := eq_true p125
          replace q125 := eq_true q125
          refine start_ (n := 25) (S := fun w' => w'.cell? ⟨gb121, 0, none⟩ = some (.string a0_0) ∧ w'.cell? ⟨gb121, 1, none⟩ = some (.string a0_1) ∧ w'.cell? ⟨gb121, 2, none⟩ = some (.slice (some ad122) l0_2.length c0_2) ∧ w'.cell? ⟨gb121, 3, none⟩ = some (.string a0_3) ∧ w'.cell? ⟨gb121, 4, none⟩ = some (.slice A0_4 l0_4.length c0_4) ∧ w'.cell? ⟨gb121, 5, none⟩ = some (.slice A0_5 l0_5.length c0_5) ∧ w'.cell? ⟨gb121, 6, none⟩ = some (.slice A0_6 l0_6.length c0_6) ∧ w'.cell? (ad122.add (x3_1).toNat) = some (.string (rdOf ByteArray.empty l0_2 x3_1)) ∧ w'.cell? (ad122.add ((ji8)).toNat) = some (.string (rdOf ByteArray.empty l0_2 (ji8))) ∧ w'.cell? (ad122.add (x3_1).toNat) = some (.string (rdOf ByteArray.empty l0_2 x3_1))) (ds := []) (tf 25 0) (by kernel_rfl) rfl rfl ⟨(blk_cell BK121.out 0).trans rfl, (blk_cell BK121.out 1).trans rfl, (blk_cell BK121.out 2).trans rfl, (blk_cell BK121.out 3).trans rfl, (blk_cell BK121.out 4).trans rfl, (blk_cell BK121.out 5).trans rfl, (blk_cell BK121.out 6).trans rfl, ((HB.out.cell (World.block_lt_of_cell? w _ hw122_0)).trans hw122_0), ((HB.out.cell (World.block_lt_of_cell? w _ hw124_0)).trans hw124_0), ((HB.out.cell (World.block_lt_of_cell? w _ hw125_0)).trans hw125_0)⟩ (fun hHeld => ?_); refine with_tabW spec_l5Usual.tab4 spec_l5Usual.bits4 (fun HT_ HW_ => ?_)
          generalize wr.drew = w13 at BK121 HB hx122_0 hx124_0 hx125_0 hHeld ⊢
          refine qA 0 15 (tf 25 1) ?_
          refine qA 2 17 (tf 25 5) ?_
          refine qT 1 16 (tf 25 7) ?_
          refine qA 3 18 (tf 25 15) ?_
          refine qT 4 19 (tf 25 31) ?_
          refine one_ (i := 5) (N := some 20) (tf 25 63) rfl rfl (one_of HT_.out (by kernel_rfl)) (by decide) (fun K hK => ?_)
          refine goes_ Try.func21 (by kernel_rfl) rfl #[.string (rdOf ByteArray.empty l0_2 x3_1)] (by rfl) rfl rfl (by (try simp only [List.map_toArray, List.map_cons, List.map_nil]); first | done | rfl | (simp only [List.length_drop, List.length_take]; rfl)) ?_
          with_reducible refine (spec_NameOk.calls k1 (rdOf ByteArray.empty l0_2 x3_1) true _ A5.out).mono ?_
          rintro e w' ⟨rfl, ⟨nd, rfl⟩⟩
          refine ⟨_, rfl, ?_⟩
          refine hK.out _ _ ⟨(blk_cell BK121.out 0).trans rfl, (blk_cell BK121.out 1).trans rfl, (blk_cell BK121.out 2).trans rfl, (blk_cell BK121.out 3).trans rfl, (blk_cell BK121.out 4).trans rfl, (blk_cell BK121.out 5).trans rfl, (blk_cell BK121.out 6).trans rfl, ((HB.out.cell (World.block_lt_of_cell? w _ hw122_0)).trans hw122_0), ((HB.out.cell (World.block_lt_of_cell? w _ hw124_0)).trans hw124_0), ((HB.out.cell (World.block_lt_of_cell? w _ hw125_0)).trans hw125_0)⟩ (fun hHeld => ?_)
          clear hK K
          refine norm_ (a' := ?_) ?_ ?_
          rotate_left
          ·show Act.put _ (some 20) _ = _
           simp only [Act.put, sT, s0, sS, i64_w, i32_w]
           rfl
          refine qA 6 21 (tf 25 127) ?_
          refine qA 7 22 (tf 25 255) ?_
          refine qA 8 23 (tf 25 511) ?_
          refine qA 9 24 (tf 25 1023) ?_
          refine qA 10 25 (tf 25 2047) ?_
          refine qA 11 26 (tf 25 4095) ?_
          refine qA 13 28 (tf 25 12287) ?_
          refine qA 14 29 (tf 25 28671) ?_
          refine qA 17 32 (tf 25 159743) ?_
          refine qA 19 34 (tf 25 684031) ?_
          refine qT 12 27 (tf 25 688127) ?_
          refine qA 15 30 (tf 25 720895) ?_
          refine qT 16 31 (tf 25 786431) ?_
          refine qT 18 33 (tf 25 1048575) ?_
          refine qA 20 35 (tf 25 2097151) ?_
          refine qT 21 36 (tf 25 4194303) ?_
          refine qA 22 37 (tf 25 8388607) ?_
          refine qA 23 38 (tf 25 16777215) ?_
          refine qA 24 39 (tf 25 33554431) ?_
          refine done_ (done_of HT_.out (by kernel_rfl)) ?_
          try go_wp2
          go_roundg k1
          case measure => have := HK1.out; omega
          case rel => exact ⟨(wrap64 (x3_1 + 1)), (by first | rfl | (simp; done) | (simp [*]; done)), H', ⟨by have := HK1.out; omega⟩, ⟨by (with_reducible repeat (first | refine blk_drewN ?_ _ | refine blk_drew ?_ | refine blk_alloc ?_ _)); exact BK121.out⟩, ⟨by repeat (first | (with_reducible first | exact HB.out | apply below_alloc | apply pw_below_drewN | apply below_drew1 | refine below_set ?_ GE121.out) | exact HB.out)⟩⟩
         ·rw [if_neg c11] at H
          have c11b0 : (Op.bytesLess ((rdOf ByteArray.empty l0_2 (ji8)).toList) ((rdOf ByteArray.empty l0_2 x3_1).toList)) = false := by simpa using c11
          clear c11
          obtain rfl := Option.some.inj H
          have hcz14_0 : wr.cell? ⟨gb121, 0, none⟩ = some (.string a0_0) := (blk_cell BK121.out 0).trans rfl
          have hcz14_1 : wr.cell? ⟨gb121, 1, none⟩ = some (.string a0_1) := (blk_cell BK121.out 1).trans rfl
          have hcz14_2 : wr.cell? ⟨gb121, 2, none⟩ = some (.slice A0_2 l0_2.length c0_2) := (blk_cell BK121.out 2).trans rfl
          have hcz14_3 : wr.cell? ⟨gb121, 3, none⟩ = some (.string a0_3) := (blk_cell BK121.out 3).trans rfl
          have hcz14_4 : wr.cell? ⟨gb121, 4, none⟩ = some (.slice A0_4 l0_4.length c0_4) := (blk_cell BK121.out 4).trans rfl
          have hcz14_5 : wr.cell? ⟨gb121, 5, none⟩ = some (.slice A0_5 l0_5.length c0_5) := (blk_cell BK121.out 5).trans rfl
          have hcz14_6 : wr.cell? ⟨gb121, 6, none⟩ = some (.slice A0_6 l0_6.length c0_6) := (blk_cell BK121.out 6).trans rfl
          have hfz14_0 := blk_frozen BK121.out 0
          have hfz14_1 := blk_frozen BK121.out 1
          have hfz14_2 := blk_frozen BK121.out 2
          have hfz14_3 := blk_frozen BK121.out 3
          have hfz14_4 := blk_frozen BK121.out 4
          have hfz14_5 := blk_frozen BK121.out 5
          have hfz14_6 := blk_frozen BK121.out 6
          try go_wp2
          have n0_ := Aside0.mk (blk_drew BK121.out)
          have n1_ := Aside0.mk (below_drew1 HB.out)
          clear BK121
          clear HB
          have BK121 := n0_
          have HB := n1_
          clear n0_ n1_
          have p122 : 0 ≤ (x3_1 : Int) := of_decide_eq_true (by first | (with_reducible assumption) | assumption)
          have q122 : x3_1 < (l0_2.length : Int) := of_decide_eq_true (by first | (with_reducible assumption) | assumption)
          obtain ⟨ad122, e122, hx122_0⟩ := Kd.at_string HR0_2.out x3_1 p122 q122
          have hw122_0 := hx122_0
          cases e122
          replace hx122_0 := (HB.out.cell (World.block_lt_of_cell? w _ hx122_0)).trans hx122_0
          replace p122 := eq_true p122
          replace q122 := eq_true q122
          have p124 : 0 ≤ ((ji8) : Int) := of_decide_eq_true (by first | (with_reducible assumption) | assumption)
          have q124 : (ji8) < (l0_2.length : Int) := of_decide_eq_true (by first | (with_reducible assumption) | assumption)
          obtain ⟨ad124, e124, hx124_0⟩ := Kd.at_string HR0_2.out (ji8) p124 q124
          have hw124_0 := hx124_0
          obtain rfl : ad122 = ad124 := (by injection e124)
          replace hx124_0 := (HB.out.cell (World.block_lt_of_cell? w _ hx124_0)).trans hx124_0
          replace p124 := eq_true p124
          replace q124 := eq_true q124
          have p125 : 0 ≤ (x3_1 : Int) := of_decide_eq_true (by first | (with_reducible assumption) | assumption)
          have q125 : x3_1 < (l0_2.length : Int) := of_decide_eq_true (by first | (with_reducible assumption) | assumption)
          obtain ⟨ad125, e125, hx125_0⟩ := Kd.at_string HR0_2.out x3_1 p125 q125
          have hw125_0 := hx125_0
          obtain rfl : ad122 = ad125 := (by injection e125)
          replace hx125_0 := (HB.out.cell (World.block_lt_of_cell? w _ hx125_0)).trans hx125_0
          replace p125 := eq_true p125
          replace q125 := eq_true q125
          refine start_ (n := 25) (S := fun w' => w'.cell? ⟨gb121, 0, none⟩ = some (.string a0_0) ∧ w'.cell? ⟨gb121, 1, none⟩ = some (.string a0_1) ∧ w'.cell? ⟨gb121, 2, none⟩ = some (.slice (some ad122) l0_2.length c0_2) ∧ w'.cell? ⟨gb121, 3, none⟩ = some (.string a0_3) ∧ w'.cell? ⟨gb121, 4, none⟩ = some (.slice A0_4 l0_4.length c0_4) ∧ w'.cell? ⟨gb121, 5, none⟩ = some (.slice A0_5 l0_5.length c0_5) ∧ w'.cell? ⟨gb121, 6, none⟩ = some (.slice A0_6 l0_6.length c0_6) ∧ w'.cell? (ad122.add (x3_1).toNat) = some (.string (rdOf ByteArray.empty l0_2 x3_1)) ∧ w'.cell? (ad122.add ((ji8)).toNat) = some (.string (rdOf ByteArray.empty l0_2 (ji8))) ∧ w'.cell? (ad122.add (x3_1).toNat) = some (.string (rdOf ByteArray.empty l0_2 x3_1))) (ds := []) (tf 25 0) (by kernel_rfl) rfl rfl ⟨(blk_cell BK121.out 0).trans rfl, (blk_cell BK121.out 1).trans rfl, (blk_cell BK121.out 2).trans rfl, (blk_cell BK121.out 3).trans rfl, (blk_cell BK121.out 4).trans rfl, (blk_cell BK121.out 5).trans rfl, (blk_cell BK121.out 6).trans rfl, ((HB.out.cell (World.block_lt_of_cell? w _ hw122_0)).trans hw122_0), ((HB.out.cell (World.block_lt_of_cell? w _ hw124_0)).trans hw124_0), ((HB.out.cell (World.block_lt_of_cell? w _ hw125_0)).trans hw125_0)⟩ (fun hHeld => ?_); refine with_tabW spec_l5Usual.tab4 spec_l5Usual.bits4 (fun HT_ HW_ => ?_)
          generalize wr.drew = w15 at BK121 HB hx122_0 hx124_0 hx125_0 hHeld ⊢
          refine qA 0 15 (tf 25 1) ?_
          refine qA 2 17 (tf 25 5) ?_
          refine qT 1 16 (tf 25 7) ?_
          refine qA 3 18 (tf 25 15) ?_
          refine qT 4 19 (tf 25 31) ?_
          refine one_ (i := 5) (N := some 20) (tf 25 63) rfl rfl (one_of HT_.out (by kernel_rfl)) (by decide) (fun K hK => ?_)
          refine goes_ Try.func21 (by kernel_rfl) rfl #[.string (rdOf ByteArray.empty l0_2 x3_1)] (by rfl) rfl rfl (by (try simp only [List.map_toArray, List.map_cons, List.map_nil]); first | done | rfl | (simp only [List.length_drop, List.length_take]; rfl)) ?_
          with_reducible refine (spec_NameOk.calls k1 (rdOf ByteArray.empty l0_2 x3_1) true _ A5.out).mono ?_
          rintro e w' ⟨rfl, ⟨nd, rfl⟩⟩
          refine ⟨_, rfl, ?_⟩
          refine hK.out _ _ ⟨(blk_cell BK121.out 0).trans rfl, (blk_cell BK121.out 1).trans rfl, (blk_cell BK121.out 2).trans rfl, (blk_cell BK121.out 3).trans rfl, (blk_cell BK121.out 4).trans rfl, (blk_cell BK121.out 5).trans rfl, (blk_cell BK121.out 6).trans rfl, ((HB.out.cell (World.block_lt_of_cell? w _ hw122_0)).trans hw122_0), ((HB.out.cell (World.block_lt_of_cell? w _ hw124_0)).trans hw124_0), ((HB.out.cell (World.block_lt_of_cell? w _ hw125_0)).trans hw125_0)⟩ (fun hHeld => ?_)
          clear hK K
          refine norm_ (a' := ?_) ?_ ?_
          rotate_left
          ·show Act.put _ (some 20) _ = _
           simp only [Act.put, sT, s0, sS, i64_w, i32_w]
           rfl
          refine qA 6 21 (tf 25 127) ?_
          refine qA 7 22 (tf 25 255) ?_
          refine qA 8 23 (tf 25 511) ?_
          refine qA 9 24 (tf 25 1023) ?_
          refine qA 10 25 (tf 25 2047) ?_
          refine qA 11 26 (tf 25 4095) ?_
          refine qA 13 28 (tf 25 12287) ?_
          refine qA 14 29 (tf 25 28671) ?_
          refine qA 17 32 (tf 25 159743) ?_
          refine qA 19 34 (tf 25 684031) ?_
          refine qT 12 27 (tf 25 688127) ?_
          refine qA 15 30 (tf 25 720895) ?_
          refine qT 16 31 (tf 25 786431) ?_
          refine qT 18 33 (tf 25 1048575) ?_
          refine qA 20 35 (tf 25 2097151) ?_
          refine qT 21 36 (tf 25 4194303) ?_
          refine qA 22 37 (tf 25 8388607) ?_
          refine qA 23 38 (tf 25 16777215) ?_
          refine qA 24 39 (tf 25 33554431) ?_
          refine done_ (done_of HT_.out (by kernel_rfl)) ?_
          try go_wp2
          go_ret
          exact ⟨by first | rfl | (simp [errW_none, errW_some] <;> rfl) | (simp only [← hji8]; first | rfl | (simp [errW_none, errW_some] <;> rfl)) | (simp [*, errW_none, errW_some] <;> rfl), by repeat (first | (with_reducible first | exact HB.out | apply below_alloc | apply pw_below_drewN | apply below_drew1 | refine below_set ?_ GE121.out) | exact HB.out)⟩
        ·rw [if_neg c10] at H
         exact absurd H (by simp)
       ·rw [if_neg c9] at H
        exact absurd H (by simp)
      ·rw [if_neg c7] at H
       have c7b0 : decide (0 < x3_1) = false := decide_eq_false c7
       clear c7
       have H' := Aside0.mk H
       clear H
       have hcz16_0 : wr.cell? ⟨gb121, 0, none⟩ = some (.string a0_0) := (blk_cell BK121.out 0).trans rfl
       have hcz16_1 : wr.cell? ⟨gb121, 1, none⟩ = some (.string a0_1) := (blk_cell BK121.out 1).trans rfl
       have hcz16_2 : wr.cell? ⟨gb121, 2, none⟩ = some (.slice A0_2 l0_2.length c0_2) := (blk_cell BK121.out 2).trans rfl
       have hcz16_3 : wr.cell? ⟨gb121, 3, none⟩ = some (.string a0_3) := (blk_cell BK121.out 3).trans rfl
       have hcz16_4 : wr.cell? ⟨gb121, 4, none⟩ = some (.slice A0_4 l0_4.length c0_4) := (blk_cell BK121.out 4).trans rfl
       have hcz16_5 : wr.cell? ⟨gb121, 5, none⟩ = some (.slice A0_5 l0_5.length c0_5) := (blk_cell BK121.out 5).trans rfl
       have hcz16_6 : wr.cell? ⟨gb121, 6, none⟩ = some (.slice A0_6 l0_6.length c0_6) := (blk_cell BK121.out 6).trans rfl
       have hfz16_0 := blk_frozen BK121.out 0
       have hfz16_1 := blk_frozen BK121.out 1
       have hfz16_2 := blk_frozen BK121.out 2
       have hfz16_3 := blk_frozen BK121.out 3
       have hfz16_4 := blk_frozen BK121.out 4
       have hfz16_5 := blk_frozen BK121.out 5
       have hfz16_6 := blk_frozen BK121.out 6
       try go_wp2
       have n0_ := Aside0.mk (blk_drew BK121.out)
       have n1_ := Aside0.mk (below_drew1 HB.out)
       clear BK121
       clear HB
       have BK121 := n0_
       have HB := n1_
       clear n0_ n1_
       have p122 : 0 ≤ (x3_1 : Int) := of_decide_eq_true (by first | (with_reducible assumption) | assumption)
       have q122 : x3_1 < (l0_2.length : Int) := of_decide_eq_true (by first | (with_reducible assumption) | assumption)
       obtain ⟨ad122, e122, hx122_0⟩ := Kd.at_string HR0_2.out x3_1 p122 q122
       have hw122_0 := hx122_0
       cases e122
       replace hx122_0 := (HB.out.cell (World.block_lt_of_cell? w _ hx122_0)).trans hx122_0
       replace p122 := eq_true p122
       replace q122 := eq_true q122
       refine start_ (n := 25) (S := fun w' => w'.cell? ⟨gb121, 0, none⟩ = some (.string a0_0) ∧ w'.cell? ⟨gb121, 1, none⟩ = some (.string a0_1) ∧ w'.cell? ⟨gb121, 2, none⟩ = some (.slice (some ad122) l0_2.length c0_2) ∧ w'.cell? ⟨gb121, 3, none⟩ = some (.string a0_3) ∧ w'.cell? ⟨gb121, 4, none⟩ = some (.slice A0_4 l0_4.length c0_4) ∧ w'.cell? ⟨gb121, 5, none⟩ = some (.slice A0_5 l0_5.length c0_5) ∧ w'.cell? ⟨gb121, 6, none⟩ = some (.slice A0_6 l0_6.length c0_6) ∧ w'.cell? (ad122.add (x3_1).toNat) = some (.string (rdOf ByteArray.empty l0_2 x3_1))) (ds := []) (tf 25 0) (by kernel_rfl) rfl rfl ⟨(blk_cell BK121.out 0).trans rfl, (blk_cell BK121.out 1).trans rfl, (blk_cell BK121.out 2).trans rfl, (blk_cell BK121.out 3).trans rfl, (blk_cell BK121.out 4).trans rfl, (blk_cell BK121.out 5).trans rfl, (blk_cell BK121.out 6).trans rfl, ((HB.out.cell (World.block_lt_of_cell? w _ hw122_0)).trans hw122_0)⟩ (fun hHeld => ?_); refine with_tabW spec_l5Usual.tab4 spec_l5Usual.bits4 (fun HT_ HW_ => ?_)
       generalize wr.drew = w17 at BK121 HB hx122_0 hHeld ⊢
       refine qA 0 15 (tf 25 1) ?_
       refine qA 2 17 (tf 25 5) ?_
       refine qT 1 16 (tf 25 7) ?_
       refine qA 3 18 (tf 25 15) ?_
       refine qT 4 19 (tf 25 31) ?_
       refine one_ (i := 5) (N := some 20) (tf 25 63) rfl rfl (one_of HT_.out (by kernel_rfl)) (by decide) (fun K hK => ?_)
       refine goes_ Try.func21 (by kernel_rfl) rfl #[.string (rdOf ByteArray.empty l0_2 x3_1)] (by rfl) rfl rfl (by (try simp only [List.map_toArray, List.map_cons, List.map_nil]); first | done | rfl | (simp only [List.length_drop, List.length_take]; rfl)) ?_
       with_reducible refine (spec_NameOk.calls k1 (rdOf ByteArray.empty l0_2 x3_1) true _ A5.out).mono ?_
       rintro e w' ⟨rfl, ⟨nd, rfl⟩⟩
       refine ⟨_, rfl, ?_⟩
       refine hK.out _ _ ⟨(blk_cell BK121.out 0).trans rfl, (blk_cell BK121.out 1).trans rfl, (blk_cell BK121.out 2).trans rfl, (blk_cell BK121.out 3).trans rfl, (blk_cell BK121.out 4).trans rfl, (blk_cell BK121.out 5).trans rfl, (blk_cell BK121.out 6).trans rfl, ((HB.out.cell (World.block_lt_of_cell? w _ hw122_0)).trans hw122_0)⟩ (fun hHeld => ?_)
       clear hK K
       refine norm_ (a' := ?_) ?_ ?_
       rotate_left
       ·show Act.put _ (some 20) _ = _
        simp only [Act.put, sT, s0, sS, i64_w, i32_w]
        rfl
       refine qA 6 21 (tf 25 127) ?_
       refine qA 7 22 (tf 25 255) ?_
       refine qA 8 23 (tf 25 511) ?_
       refine qA 9 24 (tf 25 1023) ?_
       refine qA 10 25 (tf 25 2047) ?_
       refine qU 11 26 (tf 25 4095) ?_
       refine qU 12 27 (tf 25 8191) ?_
       refine qU 13 28 (tf 25 16383) ?_
       refine qU 14 29 (tf 25 32767) ?_
       refine qU 15 30 (tf 25 65535) ?_
       refine qU 16 31 (tf 25 131071) ?_
       refine qU 17 32 (tf 25 262143) ?_
       refine qU 18 33 (tf 25 524287) ?_
       refine qU 19 34 (tf 25 1048575) ?_
       refine qU 20 35 (tf 25 2097151) ?_
       refine qU 21 36 (tf 25 4194303) ?_
       refine qU 22 37 (tf 25 8388607) ?_
       refine qA 23 38 (tf 25 16777215) ?_
       refine qA 24 39 (tf 25 33554431) ?_
       refine done_ (done_of HT_.out (by kernel_rfl)) ?_
       try go_wp2
       go_roundg k1
       case measure => have := HK1.out; omega
       case rel => exact ⟨(wrap64 (x3_1 + 1)), (by first | rfl | (simp; done) | (simp [*]; done)), H', ⟨by have := HK1.out; omega⟩, ⟨by (with_reducible repeat (first | refine blk_drewN ?_ _ | refine blk_drew ?_ | refine blk_alloc ?_ _)); exact BK121.out⟩, ⟨by repeat (first | (with_reducible first | exact HB.out | apply below_alloc | apply pw_below_drewN | apply below_drew1 | refine below_set ?_ GE121.out) | exact HB.out)⟩⟩
     ·replace c6 := Bool.eq_false_iff.mpr c6
      subst c6
      have H1 : (some false) = some r := by rw [if_neg (show ¬ (false = true) by decide)] at H; exact H
      clear H
      have H := H1
      clear H1
      obtain rfl := Option.some.inj H
      have hcz18_0 : wr.cell? ⟨gb121, 0, none⟩ = some (.string a0_0) := (blk_cell BK121.out 0).trans rfl
      have hcz18_1 : wr.cell? ⟨gb121, 1, none⟩ = some (.string a0_1) := (blk_cell BK121.out 1).trans rfl
      have hcz18_2 : wr.cell? ⟨gb121, 2, none⟩ = some (.slice A0_2 l0_2.length c0_2) := (blk_cell BK121.out 2).trans rfl
      have hcz18_3 : wr.cell? ⟨gb121, 3, none⟩ = some (.string a0_3) := (blk_cell BK121.out 3).trans rfl
      have hcz18_4 : wr.cell? ⟨gb121, 4, none⟩ = some (.slice A0_4 l0_4.length c0_4) := (blk_cell BK121.out 4).trans rfl
      have hcz18_5 : wr.cell? ⟨gb121, 5, none⟩ = some (.slice A0_5 l0_5.length c0_5) := (blk_cell BK121.out 5).trans rfl
      have hcz18_6 : wr.cell? ⟨gb121, 6, none⟩ = some (.slice A0_6 l0_6.length c0_6) := (blk_cell BK121.out 6).trans rfl
      have hfz18_0 := blk_frozen BK121.out 0
      have hfz18_1 := blk_frozen BK121.out 1
      have hfz18_2 := blk_frozen BK121.out 2
      have hfz18_3 := blk_frozen BK121.out 3
      have hfz18_4 := blk_frozen BK121.out 4
      have hfz18_5 := blk_frozen BK121.out 5
      have hfz18_6 := blk_frozen BK121.out 6
      try go_wp2
      have n0_ := Aside0.mk (blk_drew BK121.out)
      have n1_ := Aside0.mk (below_drew1 HB.out)
      clear BK121
      clear HB
      have BK121 := n0_
      have HB := n1_
      clear n0_ n1_
      have p122 : 0 ≤ (x3_1 : Int) := of_decide_eq_true (by first | (with_reducible assumption) | assumption)
      have q122 : x3_1 < (l0_2.length : Int) := of_decide_eq_true (by first | (with_reducible assumption) | assumption)
      obtain ⟨ad122, e122, hx122_0⟩ := Kd.at_string HR0_2.out x3_1 p122 q122
      have hw122_0 := hx122_0
      cases e122
      replace hx122_0 := (HB.out.cell (World.block_lt_of_cell? w _ hx122_0)).trans hx122_0
      replace p122 := eq_true p122
      replace q122 := eq_true q122
      refine start_ (n := 25) (S := fun w' => w'.cell? ⟨gb121, 0, none⟩ = some (.string a0_0) ∧ w'.cell? ⟨gb121, 1, none⟩ = some (.string a0_1) ∧ w'.cell? ⟨gb121, 2, none⟩ = some (.slice (some ad122) l0_2.length c0_2) ∧ w'.cell? ⟨gb121, 3, none⟩ = some (.string a0_3) ∧ w'.cell? ⟨gb121, 4, none⟩ = some (.slice A0_4 l0_4.length c0_4) ∧ w'.cell? ⟨gb121, 5, none⟩ = some (.slice A0_5 l0_5.length c0_5) ∧ w'.cell? ⟨gb121, 6, none⟩ = some (.slice A0_6 l0_6.length c0_6) ∧ w'.cell? (ad122.add (x3_1).toNat) = some (.string (rdOf ByteArray.empty l0_2 x3_1))) (ds := []) (tf 25 0) (by kernel_rfl) rfl rfl ⟨(blk_cell BK121.out 0).trans rfl, (blk_cell BK121.out 1).trans rfl, (blk_cell BK121.out 2).trans rfl, (blk_cell BK121.out 3).trans rfl, (blk_cell BK121.out 4).trans rfl, (blk_cell BK121.out 5).trans rfl, (blk_cell BK121.out 6).trans rfl, ((HB.out.cell (World.block_lt_of_cell? w _ hw122_0)).trans hw122_0)⟩ (fun hHeld => ?_); refine with_tabW spec_l5Usual.tab4 spec_l5Usual.bits4 (fun HT_ HW_ => ?_)
      generalize wr.drew = w19 at BK121 HB hx122_0 hHeld ⊢
      refine qA 0 15 (tf 25 1) ?_
      refine qA 2 17 (tf 25 5) ?_
      refine qT 1 16 (tf 25 7) ?_
      refine qA 3 18 (tf 25 15) ?_
      refine qT 4 19 (tf 25 31) ?_
      refine one_ (i := 5) (N := some 20) (tf 25 63) rfl rfl (one_of HT_.out (by kernel_rfl)) (by decide) (fun K hK => ?_)
      refine goes_ Try.func21 (by kernel_rfl) rfl #[.string (rdOf ByteArray.empty l0_2 x3_1)] (by rfl) rfl rfl (by (try simp only [List.map_toArray, List.map_cons, List.map_nil]); first | done | rfl | (simp only [List.length_drop, List.length_take]; rfl)) ?_
      with_reducible refine (spec_NameOk.calls k1 (rdOf ByteArray.empty l0_2 x3_1) false _ A5.out).mono ?_
      rintro e w' ⟨rfl, ⟨nd, rfl⟩⟩
      refine ⟨_, rfl, ?_⟩
      refine hK.out _ _ ⟨(blk_cell BK121.out 0).trans rfl, (blk_cell BK121.out 1).trans rfl, (blk_cell BK121.out 2).trans rfl, (blk_cell BK121.out 3).trans rfl, (blk_cell BK121.out 4).trans rfl, (blk_cell BK121.out 5).trans rfl, (blk_cell BK121.out 6).trans rfl, ((HB.out.cell (World.block_lt_of_cell? w _ hw122_0)).trans hw122_0)⟩ (fun hHeld => ?_)
      clear hK K
      refine norm_ (a' := ?_) ?_ ?_
      rotate_left
      ·show Act.put _ (some 20) _ = _
       simp only [Act.put, sT, s0, sS, i64_w, i32_w]
       rfl
      refine qA 6 21 (tf 25 127) ?_
      refine qA 7 22 (tf 25 255) ?_
      refine qU 8 23 (tf 25 511) ?_
      refine qU 9 24 (tf 25 1023) ?_
      refine qU 10 25 (tf 25 2047) ?_
      refine qU 11 26 (tf 25 4095) ?_
      refine qU 12 27 (tf 25 8191) ?_
      refine qU 13 28 (tf 25 16383) ?_
      refine qU 14 29 (tf 25 32767) ?_
      refine qU 15 30 (tf 25 65535) ?_
      refine qU 16 31 (tf 25 131071) ?_
      refine qU 17 32 (tf 25 262143) ?_
      refine qU 18 33 (tf 25 524287) ?_
      refine qU 19 34 (tf 25 1048575) ?_
      refine qU 20 35 (tf 25 2097151) ?_
      refine qU 21 36 (tf 25 4194303) ?_
      refine qU 22 37 (tf 25 8388607) ?_
      refine qU 23 38 (tf 25 16777215) ?_
      refine qA 24 39 (tf 25 33554431) ?_
      refine done_ (done_of HT_.out (by kernel_rfl)) ?_
      try go_wp2
      go_ret
      exact ⟨by first | rfl | (simp [errW_none, errW_some] <;> rfl) | (simp [*, errW_none, errW_some] <;> rfl), by repeat (first | (with_reducible first | exact HB.out | apply below_alloc | apply pw_below_drewN | apply below_drew1 | refine below_set ?_ GE121.out) | exact HB.out)⟩
    ·rw [if_neg c4] at H
     exact absurd H (by simp)
   ·rw [if_neg c3] at H
    have c3b0 : decide (x3_1 < (l0_2.length : Int)) = false := decide_eq_false c3
    clear c3
    have H' := Aside0.mk H
    clear H
    have hcz20_0 : wr.cell? ⟨gb121, 0, none⟩ = some (.string a0_0) := (blk_cell BK121.out 0).trans rfl
    have hcz20_1 : wr.cell? ⟨gb121, 1, none⟩ = some (.string a0_1) := (blk_cell BK121.out 1).trans rfl
    have hcz20_2 : wr.cell? ⟨gb121, 2, none⟩ = some (.slice A0_2 l0_2.length c0_2) := (blk_cell BK121.out 2).trans rfl
    have hcz20_3 : wr.cell? ⟨gb121, 3, none⟩ = some (.string a0_3) := (blk_cell BK121.out 3).trans rfl
    have hcz20_4 : wr.cell? ⟨gb121, 4, none⟩ = some (.slice A0_4 l0_4.length c0_4) := (blk_cell BK121.out 4).trans rfl
    have hcz20_5 : wr.cell? ⟨gb121, 5, none⟩ = some (.slice A0_5 l0_5.length c0_5) := (blk_cell BK121.out 5).trans rfl
    have hcz20_6 : wr.cell? ⟨gb121, 6, none⟩ = some (.slice A0_6 l0_6.length c0_6) := (blk_cell BK121.out 6).trans rfl
    have hfz20_0 := blk_frozen BK121.out 0
    have hfz20_1 := blk_frozen BK121.out 1
    have hfz20_2 := blk_frozen BK121.out 2
    have hfz20_3 := blk_frozen BK121.out 3
    have hfz20_4 := blk_frozen BK121.out 4
    have hfz20_5 := blk_frozen BK121.out 5
    have hfz20_6 := blk_frozen BK121.out 6
    go_wp2
    go_loopg [4] k1 (fun kq v4 w' => ∃ (x4_2 : Int), v4 = .int .i64 x4_2 ∧ Aside0 (spec_l5Usual.l1 kq x4_2 a0_0 a0_1 l0_2 a0_3 l0_4 l0_5 l0_6 = some r) ∧ Aside0 (kq ≤ k1) ∧ Aside0 (w'.heap[gb121]? = some (.cells #[.string a0_0, .string a0_1, (.slice A0_2 l0_2.length c0_2), .string a0_3, (.slice A0_4 l0_4.length c0_4), (.slice A0_5 l0_5.length c0_5), (.slice A0_6 l0_6.length c0_6)] 48 (0, 0))) ∧ Aside0 (Below w.heap.size w w'))
    case atStart => exact ⟨(0), (by first | rfl | (simp; done) | (simp [*]; done)), H', ⟨Nat.le_refl _⟩, ⟨by (with_reducible repeat (first | refine blk_drewN ?_ _ | refine blk_drew ?_ | refine blk_alloc ?_ _)); exact BK121.out⟩, ⟨by repeat (first | (with_reducible first | exact HB.out | apply below_alloc | apply pw_below_drewN | apply below_drew1 | refine below_set ?_ GE121.out) | exact HB.out)⟩⟩
    case round =>
     clear H'
     try clear c1
     try clear p1
     try clear q1
     try clear hx1
     try clear c2
     try clear p2
     try clear c3
     try clear c3b0
     try clear c4
     try clear c6
     try clear p6
     try clear c7
     try clear c7b0
     try clear c9
     try clear c10
     try clear p12
     try clear q12
     try clear hx12
     try clear hcz16_0
     try clear hcz16_1
     try clear hcz16_2
     try clear hcz16_3
     try clear hcz16_4
     try clear hcz16_5
     try clear hcz16_6
     try clear hcz18_0
     try clear hcz18_1
     try clear hcz18_2
     try clear hcz18_3
     try clear hcz18_4
     try clear hcz18_5
     try clear hcz18_6
     try clear hcz20_0
     try clear hcz20_1
     try clear hcz20_2
     try clear hcz20_3
     try clear hcz20_4
     try clear hcz20_5
     try clear hcz20_6
     try clear hfz16_0
     try clear hfz16_1
     try clear hfz16_2
     try clear hfz16_3
     try clear hfz16_4
     try clear hfz16_5
     try clear hfz16_6
     try clear hfz18_0
     try clear hfz18_1
     try clear hfz18_2
     try clear hfz18_3
     try clear hfz18_4
     try clear hfz18_5
     try clear hfz18_6
     try clear hfz20_0
     try clear hfz20_1
     try clear hfz20_2
     try clear hfz20_3
     try clear hfz20_4
     try clear hfz20_5
     try clear hfz20_6
     try clear hx122_0
     try clear p122
     try clear q122
     obtain ⟨x4_2, rfl, HA, HK2, BK121, HB⟩ := hrel
     cases gk with
     | zero => exact absurd HA.out (by simp [spec_l5Usual.l1])
     | succ k2 =>
      have H := HA.out
      clear HA
      simp only [spec_l5Usual.l1] at H
      by_cases c21 : x4_2 < (l0_6.length : Int)
      ·rw [if_pos c21] at H
       have c21b0 : decide (x4_2 < (l0_6.length : Int)) = true := decide_eq_true c21
       clear c21
       by_cases c22 : 0 ≤ x4_2
       ·rw [if_pos c22] at H
        have c22b0 : decide (0 ≤ x4_2) = true := decide_eq_true c22
        clear c22
        replace H := Option.bind_eq_some_iff.mp H
        obtain ⟨t127, A230, H⟩ := H
        replace H : (if t127 = true then (if x4_2 > 0 then (if 0 ≤ (wrap64 (x4_2 - 1)) then (if (wrap64 (x4_2 - 1)) < (l0_6.length : Int) then (if ((Op.bytesLess ((rdOf ByteArray.empty l0_6 (wrap64 (x4_2 - 1))).toList) ((rdOf ByteArray.empty l0_6 x4_2).toList)) = true) then (spec_l5Usual.l1 k2 (wrap64 (x4_2 + 1)) a0_0 a0_1 l0_2 a0_3 l0_4 l0_5 l0_6) else (some false)) else (none)) else (none)) else (spec_l5Usual.l1 k2 (wrap64 (x4_2 + 1)) a0_0 a0_1 l0_2 a0_3 l0_4 l0_5 l0_6)) else (some false)) = some r := H
        have A23 := Aside0.mk A230
        clear A230
        by_cases c24 : t127 = true
        ·subst c24
         have H1 : (if x4_2 > 0 then (if 0 ≤ (wrap64 (x4_2 - 1)) then (if (wrap64 (x4_2 - 1)) < (l0_6.length : Int) then (if ((Op.bytesLess ((rdOf ByteArray.empty l0_6 (wrap64 (x4_2 - 1))).toList) ((rdOf ByteArray.empty l0_6 x4_2).toList)) = true) then (spec_l5Usual.l1 k2 (wrap64 (x4_2 + 1)) a0_0 a0_1 l0_2 a0_3 l0_4 l0_5 l0_6) else (some false)) else (none)) else (none)) else (spec_l5Usual.l1 k2 (wrap64 (x4_2 + 1)) a0_0 a0_1 l0_2 a0_3 l0_4 l0_5 l0_6)) = some r := by rw [if_pos rfl] at H; exact H
         clear H
         have H := H1
         clear H1
         by_cases c25 : x4_2 > 0
         ·rw [if_pos c25] at H
          have c25b0 : decide (0 < x4_2) = true := decide_eq_true c25
          clear c25
          obtain ⟨ji26, hji26⟩ : ∃ j_ : Int, (wrap64 (x4_2 - 1)) = j_ := ⟨_, rfl⟩
          replace H : (if 0 ≤ (ji26) then (if (ji26) < (l0_6.length : Int) then (if ((Op.bytesLess ((rdOf ByteArray.empty l0_6 (ji26)).toList) ((rdOf ByteArray.empty l0_6 x4_2).toList)) = true) then (spec_l5Usual.l1 k2 (wrap64 (x4_2 + 1)) a0_0 a0_1 l0_2 a0_3 l0_4 l0_5 l0_6) else (some false)) else (none)) else (none)) = some r := by first | (rw [hji26] at H; exact H) | (simp only [hji26] at H ⊢; exact H)
          (try rw [hji26] at A23)
          have hji26w : (IntKind.i64.wrap (x4_2 - 1)) = ji26 := (i64_w _).trans hji26
          by_cases c27 : 0 ≤ (ji26)
          ·rw [if_pos c27] at H
           have c27b0 : decide (0 ≤ (ji26)) = true := decide_eq_true c27
           clear c27
           by_cases c28 : (ji26) < (l0_6.length : Int)
           ·rw [if_pos c28] at H
            have c28b0 : decide ((ji26) < (l0_6.length : Int)) = true := decide_eq_true c28
            clear c28
            by_cases c29 : ((Op.bytesLess ((rdOf ByteArray.empty l0_6 (ji26)).toList) ((rdOf ByteArray.empty l0_6 x4_2).toList)) = true)
            ·rw [if_pos c29] at H
             have c29b0 : (Op.bytesLess ((rdOf ByteArray.empty l0_6 (ji26)).toList) ((rdOf ByteArray.empty l0_6 x4_2).toList)) = true := c29
             clear c29
             have H' := Aside0.mk H
             clear H
             have hcz30_0 : wr.cell? ⟨gb121, 0, none⟩ = some (.string a0_0) := (blk_cell BK121.out 0).trans rfl
             have hcz30_1 : wr.cell? ⟨gb121, 1, none⟩ = some (.string a0_1) := (blk_cell BK121.out 1).trans rfl
             have hcz30_2 : wr.cell? ⟨gb121, 2, none⟩ = some (.slice A0_2 l0_2.length c0_2) := (blk_cell BK121.out 2).trans rfl
             have hcz30_3 : wr.cell? ⟨gb121, 3, none⟩ = some (.string a0_3) := (blk_cell BK121.out 3).trans rfl
             have hcz30_4 : wr.cell? ⟨gb121, 4, none⟩ = some (.slice A0_4 l0_4.length c0_4) := (blk_cell BK121.out 4).trans rfl
             have hcz30_5 : wr.cell? ⟨gb121, 5, none⟩ = some (.slice A0_5 l0_5.length c0_5) := (blk_cell BK121.out 5).trans rfl
             have hcz30_6 : wr.cell? ⟨gb121, 6, none⟩ = some (.slice A0_6 l0_6.length c0_6) := (blk_cell BK121.out 6).trans rfl
             have hfz30_0 := blk_frozen BK121.out 0
             have hfz30_1 := blk_frozen BK121.out 1
             have hfz30_2 := blk_frozen BK121.out 2
             have hfz30_3 := blk_frozen BK121.out 3
             have hfz30_4 := blk_frozen BK121.out 4
             have hfz30_5 := blk_frozen BK121.out 5
             have hfz30_6 := blk_frozen BK121.out 6
             try go_wp2
             have n0_ := Aside0.mk (blk_drew BK121.out)
             have n1_ := Aside0.mk (below_drew1 HB.out)
             clear BK121
             clear HB
             have BK121 := n0_
             have HB := n1_
             clear n0_ n1_
             have p126 : 0 ≤ (x4_2 : Int) := of_decide_eq_true (by first | (with_reducible assumption) | assumption)
             have q126 : x4_2 < (l0_6.length : Int) := of_decide_eq_true (by first | (with_reducible assumption) | assumption)
             obtain ⟨ad126, e126, hx126_0⟩ := Kd.at_string HR0_6.out x4_2 p126 q126
             have hw126_0 := hx126_0
             cases e126
             replace hx126_0 := (HB.out.cell (World.block_lt_of_cell? w _ hx126_0)).trans hx126_0
             replace p126 := eq_true p126
             replace q126 := eq_true q126
             have p128 : 0 ≤ ((ji26) : Int) := of_decide_eq_true (by first | (with_reducible assumption) | assumption)
             have q128 : (ji26) < (l0_6.length : Int) := of_decide_eq_true (by first | (with_reducible assumption) | assumption)
             obtain ⟨ad128, e128, hx128_0⟩ := Kd.at_string HR0_6.out (ji26) p128 q128
             have hw128_0 := hx128_0
             obtain rfl : ad126 = ad128 := (by injection e128)
             replace hx128_0 := (HB.out.cell (World.block_lt_of_cell? w _ hx128_0)).trans hx128_0
             replace p128 := eq_true p128
             replace q128 := eq_true q128
             have p129 : 0 ≤ (x4_2 : Int) := of_decide_eq_true (by first | (with_reducible assumption) | assumption)
             have q129 : x4_2 < (l0_6.length : Int) := of_decide_eq_true (by first | (with_reducible assumption) | assumption)
             obtain ⟨ad129, e129, hx129_0⟩ := Kd.at_string HR0_6.out x4_2 p129 q129
             have hw129_0 := hx129_0
             obtain rfl : ad126 = ad129 := (by injection e129)
             replace hx129_0 := (HB.out.cell (World.block_lt_of_cell? w _ hx129_0)).trans hx129_0
             replace p129 := eq_true p129
             replace q129 := eq_true q129
             refine start_ (n := 25) (S := fun w' => w'.cell? ⟨gb121, 0, none⟩ = some (.string a0_0) ∧ w'.cell? ⟨gb121, 1, none⟩ = some (.string a0_1) ∧ w'.cell? ⟨gb121, 2, none⟩ = some (.slice A0_2 l0_2.length c0_2) ∧ w'.cell? ⟨gb121, 3, none⟩ = some (.string a0_3) ∧ w'.cell? ⟨gb121, 4, none⟩ = some (.slice A0_4 l0_4.length c0_4) ∧ w'.cell? ⟨gb121, 5, none⟩ = some (.slice A0_5 l0_5.length c0_5) ∧ w'.cell? ⟨gb121, 6, none⟩ = some (.slice (some ad126) l0_6.length c0_6) ∧ w'.cell? (ad126.add (x4_2).toNat) = some (.string (rdOf ByteArray.empty l0_6 x4_2)) ∧ w'.cell? (ad126.add ((ji26)).toNat) = some (.string (rdOf ByteArray.empty l0_6 (ji26))) ∧ w'.cell? (ad126.add (x4_2).toNat) = some (.string (rdOf ByteArray.empty l0_6 x4_2))) (ds := []) (tf 25 0) (by kernel_rfl) rfl rfl ⟨(blk_cell BK121.out 0).trans rfl, (blk_cell BK121.out 1).trans rfl, (blk_cell BK121.out 2).trans rfl, (blk_cell BK121.out 3).trans rfl, (blk_cell BK121.out 4).trans rfl, (blk_cell BK121.out 5).trans rfl, (blk_cell BK121.out 6).trans rfl, ((HB.out.cell (World.block_lt_of_cell? w _ hw126_0)).trans hw126_0), ((HB.out.cell (World.block_lt_of_cell? w _ hw128_0)).trans hw128_0), ((HB.out.cell (World.block_lt_of_cell? w _ hw129_0)).trans hw129_0)⟩ (fun hHeld => ?_); refine with_tabW spec_l5Usual.tab9 spec_l5Usual.bits9 (fun HT_ HW_ => ?_)
             generalize wr.drew = w31 at BK121 HB hx126_0 hx128_0 hx129_0 hHeld ⊢
             refine qA 0 47 (tf 25 1) ?_
             refine qA 2 49 (tf 25 5) ?_
             refine qT 1 48 (tf 25 7) ?_
             refine qA 3 50 (tf 25 15) ?_
             refine qT 4 51 (tf 25 31) ?_
             refine one_ (i := 5) (N := some 52) (tf 25 63) rfl rfl (one_of HT_.out (by kernel_rfl)) (by decide) (fun K hK => ?_)
             refine goes_ Try.func8 (by kernel_rfl) rfl #[.string (rdOf ByteArray.empty l0_6 x4_2)] (by rfl) rfl rfl (by (try simp only [List.map_toArray, List.map_cons, List.map_nil]); first | done | rfl | (simp only [List.length_drop, List.length_take]; rfl)) ?_
             with_reducible refine (spec_AddressOk.calls k2 (rdOf ByteArray.empty l0_6 x4_2) true _ A23.out).mono ?_
             rintro e w' ⟨rfl, ⟨nd, rfl⟩⟩
             refine ⟨_, rfl, ?_⟩
             refine hK.out _ _ ⟨(blk_cell BK121.out 0).trans rfl, (blk_cell BK121.out 1).trans rfl, (blk_cell BK121.out 2).trans rfl, (blk_cell BK121.out 3).trans rfl, (blk_cell BK121.out 4).trans rfl, (blk_cell BK121.out 5).trans rfl, (blk_cell BK121.out 6).trans rfl, ((HB.out.cell (World.block_lt_of_cell? w _ hw126_0)).trans hw126_0), ((HB.out.cell (World.block_lt_of_cell? w _ hw128_0)).trans hw128_0), ((HB.out.cell (World.block_lt_of_cell? w _ hw129_0)).trans hw129_0)⟩ (fun hHeld => ?_)
             clear hK K
             refine norm_ (a' := ?_) ?_ ?_
             rotate_left
             ·show Act.put _ (some 52) _ = _
              simp only [Act.put, sT, s0, sS, i64_w, i32_w]
              rfl
             refine qA 6 53 (tf 25 127) ?_
             refine qA 7 54 (tf 25 255) ?_
             refine qA 8 55 (tf 25 511) ?_
             refine qA 9 56 (tf 25 1023) ?_
             refine qA 10 57 (tf 25 2047) ?_
             refine qA 11 58 (tf 25 4095) ?_
             refine qA 13 60 (tf 25 12287) ?_
             refine qA 14 61 (tf 25 28671) ?_
             refine qA 17 64 (tf 25 159743) ?_
             refine qA 19 66 (tf 25 684031) ?_
             refine qT 12 59 (tf 25 688127) ?_
             refine qA 15 62 (tf 25 720895) ?_
             refine qT 16 63 (tf 25 786431) ?_
             refine qT 18 65 (tf 25 1048575) ?_
             refine qA 20 67 (tf 25 2097151) ?_
             refine qT 21 68 (tf 25 4194303) ?_
             refine qA 22 69 (tf 25 8388607) ?_
             refine qA 23 70 (tf 25 16777215) ?_
             refine qA 24 71 (tf 25 33554431) ?_
             refine done_ (done_of HT_.out (by kernel_rfl)) ?_
             try go_wp2
             go_roundg k2
             case measure => have := HK1.out; have := HK2.out; omega
             case rel => exact ⟨(wrap64 (x4_2 + 1)), (by first | rfl | (simp; done) | (simp [*]; done)), H', ⟨by have := HK1.out; have := HK2.out; omega⟩, ⟨by (with_reducible repeat (first | refine blk_drewN ?_ _ | refine blk_drew ?_ | refine blk_alloc ?_ _)); exact BK121.out⟩, ⟨by repeat (first | (with_reducible first | exact HB.out | apply below_alloc | apply pw_below_drewN | apply below_drew1 | refine below_set ?_ GE121.out) | exact HB.out)⟩⟩
            ·rw [if_neg c29] at H
             have c29b0 : (Op.bytesLess ((rdOf ByteArray.empty l0_6 (ji26)).toList) ((rdOf ByteArray.empty l0_6 x4_2).toList)) = false := by simpa using c29
             clear c29
             obtain rfl := Option.some.inj H
             have hcz32_0 : wr.cell? ⟨gb121, 0, none⟩ = some (.string a0_0) := (blk_cell BK121.out 0).trans rfl
             have hcz32_1 : wr.cell? ⟨gb121, 1, none⟩ = some (.string a0_1) := (blk_cell BK121.out 1).trans rfl
             have hcz32_2 : wr.cell? ⟨gb121, 2, none⟩ = some (.slice A0_2 l0_2.length c0_2) := (blk_cell BK121.out 2).trans rfl
             have hcz32_3 : wr.cell? ⟨gb121, 3, none⟩ = some (.string a0_3) := (blk_cell BK121.out 3).trans rfl
             have hcz32_4 : wr.cell? ⟨gb121, 4, none⟩ = some (.slice A0_4 l0_4.length c0_4) := (blk_cell BK121.out 4).trans rfl
             have hcz32_5 : wr.cell? ⟨gb121, 5, none⟩ = some (.slice A0_5 l0_5.length c0_5) := (blk_cell BK121.out 5).trans rfl
             have hcz32_6 : wr.cell? ⟨gb121, 6, none⟩ = some (.slice A0_6 l0_6.length c0_6) := (blk_cell BK121.out 6).trans rfl
             have hfz32_0 := blk_frozen BK121.out 0
             have hfz32_1 := blk_frozen BK121.out 1
             have hfz32_2 := blk_frozen BK121.out 2
             have hfz32_3 := blk_frozen BK121.out 3
             have hfz32_4 := blk_frozen BK121.out 4
             have hfz32_5 := blk_frozen BK121.out 5
             have hfz32_6 := blk_frozen BK121.out 6
             try go_wp2
             have n0_ := Aside0.mk (blk_drew BK121.out)
             have n1_ := Aside0.mk (below_drew1 HB.out)
             clear BK121
             clear HB
             have BK121 := n0_
             have HB := n1_
             clear n0_ n1_
             have p126 : 0 ≤ (x4_2 : Int) := of_decide_eq_true (by first | (with_reducible assumption) | assumption)
             have q126 : x4_2 < (l0_6.length : Int) := of_decide_eq_true (by first | (with_reducible assumption) | assumption)
             obtain ⟨ad126, e126, hx126_0⟩ := Kd.at_string HR0_6.out x4_2 p126 q126
             have hw126_0 := hx126_0
             cases e126
             replace hx126_0 := (HB.out.cell (World.block_lt_of_cell? w _ hx126_0)).trans hx126_0
             replace p126 := eq_true p126
             replace q126 := eq_true q126
             have p128 : 0 ≤ ((ji26) : Int) := of_decide_eq_true (by first | (with_reducible assumption) | assumption)
             have q128 : (ji26) < (l0_6.length : Int) := of_decide_eq_true (by first | (with_reducible assumption) | assumption)
             obtain ⟨ad128, e128, hx128_0⟩ := Kd.at_string HR0_6.out (ji26) p128 q128
             have hw128_0 := hx128_0
             obtain rfl : ad126 = ad128 := (by injection e128)
             replace hx128_0 := (HB.out.cell (World.block_lt_of_cell? w _ hx128_0)).trans hx128_0
             replace p128 := eq_true p128
             replace q128 := eq_true q128
             have p129 : 0 ≤ (x4_2 : Int) := of_decide_eq_true (by first | (with_reducible assumption) | assumption)
             have q129 : x4_2 < (l0_6.length : Int) := of_decide_eq_true (by first | (with_reducible assumption) | assumption)
             obtain ⟨ad129, e129, hx129_0⟩ := Kd.at_string HR0_6.out x4_2 p129 q129
             have hw129_0 := hx129_0
             obtain rfl : ad126 = ad129 := (by injection e129)
             replace hx129_0 := (HB.out.cell (World.block_lt_of_cell? w _ hx129_0)).trans hx129_0
             replace p129 := eq_true p129
             replace q129 := eq_true q129
             refine start_ (n := 25) (S := fun w' => w'.cell? ⟨gb121, 0, none⟩ = some (.string a0_0) ∧ w'.cell? ⟨gb121, 1, none⟩ = some (.string a0_1) ∧ w'.cell? ⟨gb121, 2, none⟩ = some (.slice A0_2 l0_2.length c0_2) ∧ w'.cell? ⟨gb121, 3, none⟩ = some (.string a0_3) ∧ w'.cell? ⟨gb121, 4, none⟩ = some (.slice A0_4 l0_4.length c0_4) ∧ w'.cell? ⟨gb121, 5, none⟩ = some (.slice A0_5 l0_5.length c0_5) ∧ w'.cell? ⟨gb121, 6, none⟩ = some (.slice (some ad126) l0_6.length c0_6) ∧ w'.cell? (ad126.add (x4_2).toNat) = some (.string (rdOf ByteArray.empty l0_6 x4_2)) ∧ w'.cell? (ad126.add ((ji26)).toNat) = some (.string (rdOf ByteArray.empty l0_6 (ji26))) ∧ w'.cell? (ad126.add (x4_2).toNat) = some (.string (rdOf ByteArray.empty l0_6 x4_2))) (ds := []) (tf 25 0) (by kernel_rfl) rfl rfl ⟨(blk_cell BK121.out 0).trans rfl, (blk_cell BK121.out 1).trans rfl, (blk_cell BK121.out 2).trans rfl, (blk_cell BK121.out 3).trans rfl, (blk_cell BK121.out 4).trans rfl, (blk_cell BK121.out 5).trans rfl, (blk_cell BK121.out 6).trans rfl, ((HB.out.cell (World.block_lt_of_cell? w _ hw126_0)).trans hw126_0), ((HB.out.cell (World.block_lt_of_cell? w _ hw128_0)).trans hw128_0), ((HB.out.cell (World.block_lt_of_cell? w _ hw129_0)).trans hw129_0)⟩ (fun hHeld => ?_); refine with_tabW spec_l5Usual.tab9 spec_l5Usual.bits9 (fun HT_ HW_ => ?_)
             generalize wr.drew = w33 at BK121 HB hx126_0 hx128_0 hx129_0 hHeld ⊢
             refine qA 0 47 (tf 25 1) ?_
             refine qA 2 49 (tf 25 5) ?_
             refine qT 1 48 (tf 25 7) ?_
             refine qA 3 50 (tf 25 15) ?_
             refine qT 4 51 (tf 25 31) ?_
             refine one_ (i := 5) (N := some 52) (tf 25 63) rfl rfl (one_of HT_.out (by kernel_rfl)) (by decide) (fun K hK => ?_)
             refine goes_ Try.func8 (by kernel_rfl) rfl #[.string (rdOf ByteArray.empty l0_6 x4_2)] (by rfl) rfl rfl (by (try simp only [List.map_toArray, List.map_cons, List.map_nil]); first | done | rfl | (simp only [List.length_drop, List.length_take]; rfl)) ?_
             with_reducible refine (spec_AddressOk.calls k2 (rdOf ByteArray.empty l0_6 x4_2) true _ A23.out).mono ?_
             rintro e w' ⟨rfl, ⟨nd, rfl⟩⟩
             refine ⟨_, rfl, ?_⟩
             refine hK.out _ _ ⟨(blk_cell BK121.out 0).trans rfl, (blk_cell BK121.out 1).trans rfl, (blk_cell BK121.out 2).trans rfl, (blk_cell BK121.out 3).trans rfl, (blk_cell BK121.out 4).trans rfl, (blk_cell BK121.out 5).trans rfl, (blk_cell BK121.out 6).trans rfl, ((HB.out.cell (World.block_lt_of_cell? w _ hw126_0)).trans hw126_0), ((HB.out.cell (World.block_lt_of_cell? w _ hw128_0)).trans hw128_0), ((HB.out.cell (World.block_lt_of_cell? w _ hw129_0)).trans hw129_0)⟩ (fun hHeld => ?_)
             clear hK K
             refine norm_ (a' := ?_) ?_ ?_
             rotate_left
             ·show Act.put _ (some 52) _ = _
              simp only [Act.put, sT, s0, sS, i64_w, i32_w]
              rfl
             refine qA 6 53 (tf 25 127) ?_
             refine qA 7 54 (tf 25 255) ?_
             refine qA 8 55 (tf 25 511) ?_
             refine qA 9 56 (tf 25 1023) ?_
             refine qA 10 57 (tf 25 2047) ?_
             refine qA 11 58 (tf 25 4095) ?_
             refine qA 13 60 (tf 25 12287) ?_
             refine qA 14 61 (tf 25 28671) ?_
             refine qA 17 64 (tf 25 159743) ?_
             refine qA 19 66 (tf 25 684031) ?_
             refine qT 12 59 (tf 25 688127) ?_
             refine qA 15 62 (tf 25 720895) ?_
             refine qT 16 63 (tf 25 786431) ?_
             refine qT 18 65 (tf 25 1048575) ?_
             refine qA 20 67 (tf 25 2097151) ?_
             refine qT 21 68 (tf 25 4194303) ?_
             refine qA 22 69 (tf 25 8388607) ?_
             refine qA 23 70 (tf 25 16777215) ?_
             refine qA 24 71 (tf 25 33554431) ?_
             refine done_ (done_of HT_.out (by kernel_rfl)) ?_
             try go_wp2
             go_ret
             exact ⟨by first | rfl | (simp [errW_none, errW_some] <;> rfl) | (simp only [← hji26]; first | rfl | (simp [errW_none, errW_some] <;> rfl)) | (simp [*, errW_none, errW_some] <;> rfl), by repeat (first | (with_reducible first | exact HB.out | apply below_alloc | apply pw_below_drewN | apply below_drew1 | refine below_set ?_ GE121.out) | exact HB.out)⟩
           ·rw [if_neg c28] at H
            exact absurd H (by simp)
          ·rw [if_neg c27] at H
           exact absurd H (by simp)
         ·rw [if_neg c25] at H
          have c25b0 : decide (0 < x4_2) = false := decide_eq_false c25
          clear c25
          have H' := Aside0.mk H
          clear H
          have hcz34_0 : wr.cell? ⟨gb121, 0, none⟩ = some (.string a0_0) := (blk_cell BK121.out 0).trans rfl
          have hcz34_1 : wr.cell? ⟨gb121, 1, none⟩ = some (.string a0_1) := (blk_cell BK121.out 1).trans rfl
          have hcz34_2 : wr.cell? ⟨gb121, 2, none⟩ = some (.slice A0_2 l0_2.length c0_2) := (blk_cell BK121.out 2).trans rfl
          have hcz34_3 : wr.cell? ⟨gb121, 3, none⟩ = some (.string a0_3) := (blk_cell BK121.out 3).trans rfl
          have hcz34_4 : wr.cell? ⟨gb121, 4, none⟩ = some (.slice A0_4 l0_4.length c0_4) := (blk_cell BK121.out 4).trans rfl
          have hcz34_5 : wr.cell? ⟨gb121, 5, none⟩ = some (.slice A0_5 l0_5.length c0_5) := (blk_cell BK121.out 5).trans rfl
          have hcz34_6 : wr.cell? ⟨gb121, 6, none⟩ = some (.slice A0_6 l0_6.length c0_6) := (blk_cell BK121.out 6).trans rfl
          have hfz34_0 := blk_frozen BK121.out 0
          have hfz34_1 := blk_frozen BK121.out 1
          have hfz34_2 := blk_frozen BK121.out 2
          have hfz34_3 := blk_frozen BK121.out 3
          have hfz34_4 := blk_frozen BK121.out 4
          have hfz34_5 := blk_frozen BK121.out 5
          have hfz34_6 := blk_frozen BK121.out 6
          try go_wp2
          have n0_ := Aside0.mk (blk_drew BK121.out)
          have n1_ := Aside0.mk (below_drew1 HB.out)
          clear BK121
          clear HB
          have BK121 := n0_
          have HB := n1_
          clear n0_ n1_
          have p126 : 0 ≤ (x4_2 : Int) := of_decide_eq_true (by first | (with_reducible assumption) | assumption)
          have q126 : x4_2 < (l0_6.length : Int) := of_decide_eq_true (by first | (with_reducible assumption) | assumption)
          obtain ⟨ad126, e126, hx126_0⟩ := Kd.at_string HR0_6.out x4_2 p126 q126
          have hw126_0 := hx126_0
          cases e126
          replace hx126_0 := (HB.out.cell (World.block_lt_of_cell? w _ hx126_0)).trans hx126_0
          replace p126 := eq_true p126
          replace q126 := eq_true q126
          refine start_ (n := 25) (S := fun w' => w'.cell? ⟨gb121, 0, none⟩ = some (.string a0_0) ∧ w'.cell? ⟨gb121, 1, none⟩ = some (.string a0_1) ∧ w'.cell? ⟨gb121, 2, none⟩ = some (.slice A0_2 l0_2.length c0_2) ∧ w'.cell? ⟨gb121, 3, none⟩ = some (.string a0_3) ∧ w'.cell? ⟨gb121, 4, none⟩ = some (.slice A0_4 l0_4.length c0_4) ∧ w'.cell? ⟨gb121, 5, none⟩ = some (.slice A0_5 l0_5.length c0_5) ∧ w'.cell? ⟨gb121, 6, none⟩ = some (.slice (some ad126) l0_6.length c0_6) ∧ w'.cell? (ad126.add (x4_2).toNat) = some (.string (rdOf ByteArray.empty l0_6 x4_2))) (ds := []) (tf 25 0) (by kernel_rfl) rfl rfl ⟨(blk_cell BK121.out 0).trans rfl, (blk_cell BK121.out 1).trans rfl, (blk_cell BK121.out 2).trans rfl, (blk_cell BK121.out 3).trans rfl, (blk_cell BK121.out 4).trans rfl, (blk_cell BK121.out 5).trans rfl, (blk_cell BK121.out 6).trans rfl, ((HB.out.cell (World.block_lt_of_cell? w _ hw126_0)).trans hw126_0)⟩ (fun hHeld => ?_); refine with_tabW spec_l5Usual.tab9 spec_l5Usual.bits9 (fun HT_ HW_ => ?_)
          generalize wr.drew = w35 at BK121 HB hx126_0 hHeld ⊢
          refine qA 0 47 (tf 25 1) ?_
          refine qA 2 49 (tf 25 5) ?_
          refine qT 1 48 (tf 25 7) ?_
          refine qA 3 50 (tf 25 15) ?_
          refine qT 4 51 (tf 25 31) ?_
          refine one_ (i := 5) (N := some 52) (tf 25 63) rfl rfl (one_of HT_.out (by kernel_rfl)) (by decide) (fun K hK => ?_)
          refine goes_ Try.func8 (by kernel_rfl) rfl #[.string (rdOf ByteArray.empty l0_6 x4_2)] (by rfl) rfl rfl (by (try simp only [List.map_toArray, List.map_cons, List.map_nil]); first | done | rfl | (simp only [List.length_drop, List.length_take]; rfl)) ?_
          with_reducible refine (spec_AddressOk.calls k2 (rdOf ByteArray.empty l0_6 x4_2) true _ A23.out).mono ?_
          rintro e w' ⟨rfl, ⟨nd, rfl⟩⟩
          refine ⟨_, rfl, ?_⟩
          refine hK.out _ _ ⟨(blk_cell BK121.out 0).trans rfl, (blk_cell BK121.out 1).trans rfl, (blk_cell BK121.out 2).trans rfl, (blk_cell BK121.out 3).trans rfl, (blk_cell BK121.out 4).trans rfl, (blk_cell BK121.out 5).trans rfl, (blk_cell BK121.out 6).trans rfl, ((HB.out.cell (World.block_lt_of_cell? w _ hw126_0)).trans hw126_0)⟩ (fun hHeld => ?_)
          clear hK K
          refine norm_ (a' := ?_) ?_ ?_
          rotate_left
          ·show Act.put _ (some 52) _ = _
           simp only [Act.put, sT, s0, sS, i64_w, i32_w]
           rfl
          refine qA 6 53 (tf 25 127) ?_
          refine qA 7 54 (tf 25 255) ?_
          refine qA 8 55 (tf 25 511) ?_
          refine qA 9 56 (tf 25 1023) ?_
          refine qA 10 57 (tf 25 2047) ?_
          refine qU 11 58 (tf 25 4095) ?_
          refine qU 12 59 (tf 25 8191) ?_
          refine qU 13 60 (tf 25 16383) ?_
          refine qU 14 61 (tf 25 32767) ?_
          refine qU 15 62 (tf 25 65535) ?_
          refine qU 16 63 (tf 25 131071) ?_
          refine qU 17 64 (tf 25 262143) ?_
          refine qU 18 65 (tf 25 524287) ?_
          refine qU 19 66 (tf 25 1048575) ?_
          refine qU 20 67 (tf 25 2097151) ?_
          refine qU 21 68 (tf 25 4194303) ?_
          refine qU 22 69 (tf 25 8388607) ?_
          refine qA 23 70 (tf 25 16777215) ?_
          refine qA 24 71 (tf 25 33554431) ?_
          refine done_ (done_of HT_.out (by kernel_rfl)) ?_
          try go_wp2
          go_roundg k2
          case measure => have := HK1.out; have := HK2.out; omega
          case rel => exact ⟨(wrap64 (x4_2 + 1)), (by first | rfl | (simp; done) | (simp [*]; done)), H', ⟨by have := HK1.out; have := HK2.out; omega⟩, ⟨by (with_reducible repeat (first | refine blk_drewN ?_ _ | refine blk_drew ?_ | refine blk_alloc ?_ _)); exact BK121.out⟩, ⟨by repeat (first | (with_reducible first | exact HB.out | apply below_alloc | apply pw_below_drewN | apply below_drew1 | refine below_set ?_ GE121.out) | exact HB.out)⟩⟩
        ·replace c24 := Bool.eq_false_iff.mpr c24
         subst c24
         have H1 : (some false) = some r := by rw [if_neg (show ¬ (false = true) by decide)] at H; exact H
         clear H
         have H := H1
         clear H1
         obtain rfl := Option.some.inj H
         have hcz36_0 : wr.cell? ⟨gb121, 0, none⟩ = some (.string a0_0) := (blk_cell BK121.out 0).trans rfl
         have hcz36_1 : wr.cell? ⟨gb121, 1, none⟩ = some (.string a0_1) := (blk_cell BK121.out 1).trans rfl
         have hcz36_2 : wr.cell? ⟨gb121, 2, none⟩ = some (.slice A0_2 l0_2.length c0_2) := (blk_cell BK121.out 2).trans rfl
         have hcz36_3 : wr.cell? ⟨gb121, 3, none⟩ = some (.string a0_3) := (blk_cell BK121.out 3).trans rfl
         have hcz36_4 : wr.cell? ⟨gb121, 4, none⟩ = some (.slice A0_4 l0_4.length c0_4) := (blk_cell BK121.out 4).trans rfl
         have hcz36_5 : wr.cell? ⟨gb121, 5, none⟩ = some (.slice A0_5 l0_5.length c0_5) := (blk_cell BK121.out 5).trans rfl
         have hcz36_6 : wr.cell? ⟨gb121, 6, none⟩ = some (.slice A0_6 l0_6.length c0_6) := (blk_cell BK121.out 6).trans rfl
         have hfz36_0 := blk_frozen BK121.out 0
         have hfz36_1 := blk_frozen BK121.out 1
         have hfz36_2 := blk_frozen BK121.out 2
         have hfz36_3 := blk_frozen BK121.out 3
         have hfz36_4 := blk_frozen BK121.out 4
         have hfz36_5 := blk_frozen BK121.out 5
         have hfz36_6 := blk_frozen BK121.out 6
         try go_wp2
         have n0_ := Aside0.mk (blk_drew BK121.out)
         have n1_ := Aside0.mk (below_drew1 HB.out)
         clear BK121
         clear HB
         have BK121 := n0_
         have HB := n1_
         clear n0_ n1_
         have p126 : 0 ≤ (x4_2 : Int) := of_decide_eq_true (by first | (with_reducible assumption) | assumption)
         have q126 : x4_2 < (l0_6.length : Int) := of_decide_eq_true (by first | (with_reducible assumption) | assumption)
         obtain ⟨ad126, e126, hx126_0⟩ := Kd.at_string HR0_6.out x4_2 p126 q126
         have hw126_0 := hx126_0
         cases e126
         replace hx126_0 := (HB.out.cell (World.block_lt_of_cell? w _ hx126_0)).trans hx126_0
         replace p126 := eq_true p126
         replace q126 := eq_true q126
         refine start_ (n := 25) (S := fun w' => w'.cell? ⟨gb121, 0, none⟩ = some (.string a0_0) ∧ w'.cell? ⟨gb121, 1, none⟩ = some (.string a0_1) ∧ w'.cell? ⟨gb121, 2, none⟩ = some (.slice A0_2 l0_2.length c0_2) ∧ w'.cell? ⟨gb121, 3, none⟩ = some (.string a0_3) ∧ w'.cell? ⟨gb121, 4, none⟩ = some (.slice A0_4 l0_4.length c0_4) ∧ w'.cell? ⟨gb121, 5, none⟩ = some (.slice A0_5 l0_5.length c0_5) ∧ w'.cell? ⟨gb121, 6, none⟩ = some (.slice (some ad126) l0_6.length c0_6) ∧ w'.cell? (ad126.add (x4_2).toNat) = some (.string (rdOf ByteArray.empty l0_6 x4_2))) (ds := []) (tf 25 0) (by kernel_rfl) rfl rfl ⟨(blk_cell BK121.out 0).trans rfl, (blk_cell BK121.out 1).trans rfl, (blk_cell BK121.out 2).trans rfl, (blk_cell BK121.out 3).trans rfl, (blk_cell BK121.out 4).trans rfl, (blk_cell BK121.out 5).trans rfl, (blk_cell BK121.out 6).trans rfl, ((HB.out.cell (World.block_lt_of_cell? w _ hw126_0)).trans hw126_0)⟩ (fun hHeld => ?_); refine with_tabW spec_l5Usual.tab9 spec_l5Usual.bits9 (fun HT_ HW_ => ?_)
         generalize wr.drew = w37 at BK121 HB hx126_0 hHeld ⊢
         refine qA 0 47 (tf 25 1) ?_
         refine qA 2 49 (tf 25 5) ?_
         refine qT 1 48 (tf 25 7) ?_
         refine qA 3 50 (tf 25 15) ?_
         refine qT 4 51 (tf 25 31) ?_
         refine one_ (i := 5) (N := some 52) (tf 25 63) rfl rfl (one_of HT_.out (by kernel_rfl)) (by decide) (fun K hK => ?_)
         refine goes_ Try.func8 (by kernel_rfl) rfl #[.string (rdOf ByteArray.empty l0_6 x4_2)] (by rfl) rfl rfl (by (try simp only [List.map_toArray, List.map_cons, List.map_nil]); first | done | rfl | (simp only [List.length_drop, List.length_take]; rfl)) ?_
         with_reducible refine (spec_AddressOk.calls k2 (rdOf ByteArray.empty l0_6 x4_2) false _ A23.out).mono ?_
         rintro e w' ⟨rfl, ⟨nd, rfl⟩⟩
         refine ⟨_, rfl, ?_⟩
         refine hK.out _ _ ⟨(blk_cell BK121.out 0).trans rfl, (blk_cell BK121.out 1).trans rfl, (blk_cell BK121.out 2).trans rfl, (blk_cell BK121.out 3).trans rfl, (blk_cell BK121.out 4).trans rfl, (blk_cell BK121.out 5).trans rfl, (blk_cell BK121.out 6).trans rfl, ((HB.out.cell (World.block_lt_of_cell? w _ hw126_0)).trans hw126_0)⟩ (fun hHeld => ?_)
         clear hK K
         refine norm_ (a' := ?_) ?_ ?_
         rotate_left
         ·show Act.put _ (some 52) _ = _
          simp only [Act.put, sT, s0, sS, i64_w, i32_w]
          rfl
         refine qA 6 53 (tf 25 127) ?_
         refine qA 7 54 (tf 25 255) ?_
         refine qU 8 55 (tf 25 511) ?_
         refine qU 9 56 (tf 25 1023) ?_
         refine qU 10 57 (tf 25 2047) ?_
         refine qU 11 58 (tf 25 4095) ?_
         refine qU 12 59 (tf 25 8191) ?_
         refine qU 13 60 (tf 25 16383) ?_
         refine qU 14 61 (tf 25 32767) ?_
         refine qU 15 62 (tf 25 65535) ?_
         refine qU 16 63 (tf 25 131071) ?_
         refine qU 17 64 (tf 25 262143) ?_
         refine qU 18 65 (tf 25 524287) ?_
         refine qU 19 66 (tf 25 1048575) ?_
         refine qU 20 67 (tf 25 2097151) ?_
         refine qU 21 68 (tf 25 4194303) ?_
         refine qU 22 69 (tf 25 8388607) ?_
         refine qU 23 70 (tf 25 16777215) ?_
         refine qA 24 71 (tf 25 33554431) ?_
         refine done_ (done_of HT_.out (by kernel_rfl)) ?_
         try go_wp2
         go_ret
         exact ⟨by first | rfl | (simp [errW_none, errW_some] <;> rfl) | (simp [*, errW_none, errW_some] <;> rfl), by repeat (first | (with_reducible first | exact HB.out | apply below_alloc | apply pw_below_drewN | apply below_drew1 | refine below_set ?_ GE121.out) | exact HB.out)⟩
       ·rw [if_neg c22] at H
        exact absurd H (by simp)
      ·rw [if_neg c21] at H
       have c21b0 : decide (x4_2 < (l0_6.length : Int)) = false := decide_eq_false c21
       clear c21
       have H' := Aside0.mk H
       clear H
       have hcz38_0 : wr.cell? ⟨gb121, 0, none⟩ = some (.string a0_0) := (blk_cell BK121.out 0).trans rfl
       have hcz38_1 : wr.cell? ⟨gb121, 1, none⟩ = some (.string a0_1) := (blk_cell BK121.out 1).trans rfl
       have hcz38_2 : wr.cell? ⟨gb121, 2, none⟩ = some (.slice A0_2 l0_2.length c0_2) := (blk_cell BK121.out 2).trans rfl
       have hcz38_3 : wr.cell? ⟨gb121, 3, none⟩ = some (.string a0_3) := (blk_cell BK121.out 3).trans rfl
       have hcz38_4 : wr.cell? ⟨gb121, 4, none⟩ = some (.slice A0_4 l0_4.length c0_4) := (blk_cell BK121.out 4).trans rfl
       have hcz38_5 : wr.cell? ⟨gb121, 5, none⟩ = some (.slice A0_5 l0_5.length c0_5) := (blk_cell BK121.out 5).trans rfl
       have hcz38_6 : wr.cell? ⟨gb121, 6, none⟩ = some (.slice A0_6 l0_6.length c0_6) := (blk_cell BK121.out 6).trans rfl
       have hfz38_0 := blk_frozen BK121.out 0
       have hfz38_1 := blk_frozen BK121.out 1
       have hfz38_2 := blk_frozen BK121.out 2
       have hfz38_3 := blk_frozen BK121.out 3
       have hfz38_4 := blk_frozen BK121.out 4
       have hfz38_5 := blk_frozen BK121.out 5
       have hfz38_6 := blk_frozen BK121.out 6
       go_wp2
       go_loopg [5] k2 (fun kq v5 w' => ∃ (x5_3 : Int), v5 = .int .i64 x5_3 ∧ Aside0 (spec_l5Usual.l2 kq x5_3 a0_0 a0_1 l0_2 a0_3 l0_4 l0_5 l0_6 = some r) ∧ Aside0 (kq ≤ k2) ∧ Aside0 (w'.heap[gb121]? = some (.cells #[.string a0_0, .string a0_1, (.slice A0_2 l0_2.length c0_2), .string a0_3, (.slice A0_4 l0_4.length c0_4), (.slice A0_5 l0_5.length c0_5), (.slice A0_6 l0_6.length c0_6)] 48 (0, 0))) ∧ Aside0 (Below w.heap.size w w'))
       case atStart => exact ⟨(0), (by first | rfl | (simp; done) | (simp [*]; done)), H', ⟨Nat.le_refl _⟩, ⟨by (with_reducible repeat (first | refine blk_drewN ?_ _ | refine blk_drew ?_ | refine blk_alloc ?_ _)); exact BK121.out⟩, ⟨by repeat (first | (with_reducible first | exact HB.out | apply below_alloc | apply pw_below_drewN | apply below_drew1 | refine below_set ?_ GE121.out) | exact HB.out)⟩⟩
       case round =>
        clear H'
        try clear p1
        try clear q1
        try clear hx1
        try clear c2
        try clear p2
        try clear p6
        try clear c8
        try clear p12
        try clear q12
        try clear hx12
        try clear c21
        try clear c21b0
        try clear c22
        try clear c24
        try clear c25
        try clear c25b0
        try clear c27
        try clear c28
        try clear hcz34_0
        try clear hcz34_1
        try clear hcz34_2
        try clear hcz34_3
        try clear hcz34_4
        try clear hcz34_5
        try clear hcz34_6
        try clear hcz36_0
        try clear hcz36_1
        try clear hcz36_2
        try clear hcz36_3
        try clear hcz36_4
        try clear hcz36_5
        try clear hcz36_6
        try clear hcz38_0
        try clear hcz38_1
        try clear hcz38_2
        try clear hcz38_3
        try clear hcz38_4
        try clear hcz38_5
        try clear hcz38_6
        try clear hfz34_0
        try clear hfz34_1
        try clear hfz34_2
        try clear hfz34_3
        try clear hfz34_4
        try clear hfz34_5
        try clear hfz34_6
        try clear hfz36_0
        try clear hfz36_1
        try clear hfz36_2
        try clear hfz36_3
        try clear hfz36_4
        try clear hfz36_5
        try clear hfz36_6
        try clear hfz38_0
        try clear hfz38_1
        try clear hfz38_2
        try clear hfz38_3
        try clear hfz38_4
        try clear hfz38_5
        try clear hfz38_6
        try clear hx126_0
        try clear p126
        try clear q126
        obtain ⟨x5_3, rfl, HA, HK3, BK121, HB⟩ := hrel
        cases gk with
        | zero => exact absurd HA.out (by simp [spec_l5Usual.l2])
        | succ k3 =>
         have H := HA.out
         clear HA
         simp only [spec_l5Usual.l2] at H
         by_cases c39 : x5_3 < (l0_4.length : Int)
         ·rw [if_pos c39] at H
          have c39b0 : decide (x5_3 < (l0_4.length : Int)) = true := decide_eq_true c39
          clear c39
          by_cases c40 : 0 ≤ x5_3
          ·rw [if_pos c40] at H
           have c40b0 : decide (0 ≤ x5_3) = true := decide_eq_true c40
           clear c40
           replace H := Option.bind_eq_some_iff.mp H
           obtain ⟨t131, A410, H⟩ := H
           replace H : (if t131 = true then (if x5_3 > 0 then (if 0 ≤ (wrap64 (x5_3 - 1)) then (if (wrap64 (x5_3 - 1)) < (l0_4.length : Int) then (if ((Op.bytesLess (((rd_T73 l0_4 (wrap64 (x5_3 - 1))).f0).toList) (((rd_T73 l0_4 x5_3).f0).toList)) = true) then ((spec_l5TextOk.f k3 ((rd_T73 l0_4 x5_3).f1)).bind fun t135 => (if t135 = true then (spec_l5Usual.l2 k3 (wrap64 (x5_3 + 1)) a0_0 a0_1 l0_2 a0_3 l0_4 l0_5 l0_6) else (some false))) else (some false)) else (none)) else (none)) else ((spec_l5TextOk.f k3 ((rd_T73 l0_4 x5_3).f1)).bind fun t137 => (if t137 = true then (spec_l5Usual.l2 k3 (wrap64 (x5_3 + 1)) a0_0 a0_1 l0_2 a0_3 l0_4 l0_5 l0_6) else (some false)))) else (some false)) = some r := H
           have A41 := Aside0.mk A410
           clear A410
           by_cases c42 : t131 = true
           ·subst c42
            have H1 : (if x5_3 > 0 then (if 0 ≤ (wrap64 (x5_3 - 1)) then (if (wrap64 (x5_3 - 1)) < (l0_4.length : Int) then (if ((Op.bytesLess (((rd_T73 l0_4 (wrap64 (x5_3 - 1))).f0).toList) (((rd_T73 l0_4 x5_3).f0).toList)) = true) then ((spec_l5TextOk.f k3 ((rd_T73 l0_4 x5_3).f1)).bind fun t135 => (if t135 = true then (spec_l5Usual.l2 k3 (wrap64 (x5_3 + 1)) a0_0 a0_1 l0_2 a0_3 l0_4 l0_5 l0_6) else (some false))) else (some false)) else (none)) else (none)) else ((spec_l5TextOk.f k3 ((rd_T73 l0_4 x5_3).f1)).bind fun t137 => (if t137 = true then (spec_l5Usual.l2 k3 (wrap64 (x5_3 + 1)) a0_0 a0_1 l0_2 a0_3 l0_4 l0_5 l0_6) else (some false)))) = some r := by rw [if_pos rfl] at H; exact H
            clear H
            have H := H1
            clear H1
            by_cases c43 : x5_3 > 0
            ·rw [if_pos c43] at H
             have c43b0 : decide (0 < x5_3) = true := decide_eq_true c43
             clear c43
             obtain ⟨ji44, hji44⟩ : ∃ j_ : Int, (wrap64 (x5_3 - 1)) = j_ := ⟨_, rfl⟩
             replace H : (if 0 ≤ (ji44) then (if (ji44) < (l0_4.length : Int) then (if ((Op.bytesLess (((rd_T73 l0_4 (ji44)).f0).toList) (((rd_T73 l0_4 x5_3).f0).toList)) = true) then ((spec_l5TextOk.f k3 ((rd_T73 l0_4 x5_3).f1)).bind fun t135 => (if t135 = true then (spec_l5Usual.l2 k3 (wrap64 (x5_3 + 1)) a0_0 a0_1 l0_2 a0_3 l0_4 l0_5 l0_6) else (some false))) else (some false)) else (none)) else (none)) = some r := by first | (rw [hji44] at H; exact H) | (simp only [hji44] at H ⊢; exact H)
             (try rw [hji44] at A41)
             have hji44w : (IntKind.i64.wrap (x5_3 - 1)) = ji44 := (i64_w _).trans hji44
             by_cases c45 : 0 ≤ (ji44)
             ·rw [if_pos c45] at H
              have c45b0 : decide (0 ≤ (ji44)) = true := decide_eq_true c45
              clear c45
              by_cases c46 : (ji44) < (l0_4.length : Int)
              ·rw [if_pos c46] at H
               have c46b0 : decide ((ji44) < (l0_4.length : Int)) = true := decide_eq_true c46
               clear c46
               by_cases c47 : ((Op.bytesLess (((rd_T73 l0_4 (ji44)).f0).toList) (((rd_T73 l0_4 x5_3).f0).toList)) = true)
               ·rw [if_pos c47] at H
                have c47b0 : (Op.bytesLess (((rd_T73 l0_4 (ji44)).f0).toList) (((rd_T73 l0_4 x5_3).f0).toList)) = true := c47
                clear c47
                replace H := Option.bind_eq_some_iff.mp H
                obtain ⟨t135, A480, H⟩ := H
                replace H : (if t135 = true then (spec_l5Usual.l2 k3 (wrap64 (x5_3 + 1)) a0_0 a0_1 l0_2 a0_3 l0_4 l0_5 l0_6) else (some false)) = some r := H
                have A48 := Aside0.mk A480
                clear A480
                by_cases c49 : t135 = true
                ·subst c49
                 have H1 : (spec_l5Usual.l2 k3 (wrap64 (x5_3 + 1)) a0_0 a0_1 l0_2 a0_3 l0_4 l0_5 l0_6) = some r := by rw [if_pos rfl] at H; exact H
                 clear H
                 have H := H1
                 clear H1
                 have H' := Aside0.mk H
                 clear H
                 have hcz50_0 : wr.cell? ⟨gb121, 0, none⟩ = some (.string a0_0) := (blk_cell BK121.out 0).trans rfl
                 have hcz50_1 : wr.cell? ⟨gb121, 1, none⟩ = some (.string a0_1) := (blk_cell BK121.out 1).trans rfl
                 have hcz50_2 : wr.cell? ⟨gb121, 2, none⟩ = some (.slice A0_2 l0_2.length c0_2) := (blk_cell BK121.out 2).trans rfl
                 have hcz50_3 : wr.cell? ⟨gb121, 3, none⟩ = some (.string a0_3) := (blk_cell BK121.out 3).trans rfl
                 have hcz50_4 : wr.cell? ⟨gb121, 4, none⟩ = some (.slice A0_4 l0_4.length c0_4) := (blk_cell BK121.out 4).trans rfl
                 have hcz50_5 : wr.cell? ⟨gb121, 5, none⟩ = some (.slice A0_5 l0_5.length c0_5) := (blk_cell BK121.out 5).trans rfl
                 have hcz50_6 : wr.cell? ⟨gb121, 6, none⟩ = some (.slice A0_6 l0_6.length c0_6) := (blk_cell BK121.out 6).trans rfl
                 have hfz50_0 := blk_frozen BK121.out 0
                 have hfz50_1 := blk_frozen BK121.out 1
                 have hfz50_2 := blk_frozen BK121.out 2
                 have hfz50_3 := blk_frozen BK121.out 3
                 have hfz50_4 := blk_frozen BK121.out 4
                 have hfz50_5 := blk_frozen BK121.out 5
                 have hfz50_6 := blk_frozen BK121.out 6
                 try go_wp2
                 have n0_ := Aside0.mk (blk_drew BK121.out)
                 have n1_ := Aside0.mk (below_drew1 HB.out)
                 clear BK121
                 clear HB
                 have BK121 := n0_
                 have HB := n1_
                 clear n0_ n1_
                 have p130 : 0 ≤ (x5_3 : Int) := of_decide_eq_true (by first | (with_reducible assumption) | assumption)
                 have q130 : x5_3 < (l0_4.length : Int) := of_decide_eq_true (by first | (with_reducible assumption) | assumption)
                 obtain ⟨ad130, e130, hx130_0, hx130_1⟩ := at_T73 HR0_4.out x5_3 p130 q130
                 have hw130_1 := hx130_1
                 have hw130_0 := hx130_0
                 cases e130
                 replace hx130_0 := (HB.out.cell (World.block_lt_of_cell? w _ hx130_0)).trans hx130_0
                 replace hx130_1 := (HB.out.cell (World.block_lt_of_cell? w _ hx130_1)).trans hx130_1
                 replace p130 := eq_true p130
                 replace q130 := eq_true q130
                 have p132 : 0 ≤ ((ji44) : Int) := of_decide_eq_true (by first | (with_reducible assumption) | assumption)
                 have q132 : (ji44) < (l0_4.length : Int) := of_decide_eq_true (by first | (with_reducible assumption) | assumption)
                 obtain ⟨ad132, e132, hx132_0, hx132_1⟩ := at_T73 HR0_4.out (ji44) p132 q132
                 have hw132_1 := hx132_1
                 have hw132_0 := hx132_0
                 obtain rfl : ad130 = ad132 := (by injection e132)
                 replace hx132_0 := (HB.out.cell (World.block_lt_of_cell? w _ hx132_0)).trans hx132_0
                 replace hx132_1 := (HB.out.cell (World.block_lt_of_cell? w _ hx132_1)).trans hx132_1
                 replace p132 := eq_true p132
                 replace q132 := eq_true q132
                 have p133 : 0 ≤ (x5_3 : Int) := of_decide_eq_true (by first | (with_reducible assumption) | assumption)
                 have q133 : x5_3 < (l0_4.length : Int) := of_decide_eq_true (by first | (with_reducible assumption) | assumption)
                 obtain ⟨ad133, e133, hx133_0, hx133_1⟩ := at_T73 HR0_4.out x5_3 p133 q133
                 have hw133_1 := hx133_1
                 have hw133_0 := hx133_0
                 obtain rfl : ad130 = ad133 := (by injection e133)
                 replace hx133_0 := (HB.out.cell (World.block_lt_of_cell? w _ hx133_0)).trans hx133_0
                 replace hx133_1 := (HB.out.cell (World.block_lt_of_cell? w _ hx133_1)).trans hx133_1
                 replace p133 := eq_true p133
                 replace q133 := eq_true q133
                 have p134 : 0 ≤ (x5_3 : Int) := of_decide_eq_true (by first | (with_reducible assumption) | assumption)
                 have q134 : x5_3 < (l0_4.length : Int) := of_decide_eq_true (by first | (with_reducible assumption) | assumption)
                 obtain ⟨ad134, e134, hx134_0, hx134_1⟩ := at_T73 HR0_4.out x5_3 p134 q134
                 have hw134_1 := hx134_1
                 have hw134_0 := hx134_0
                 obtain rfl : ad130 = ad134 := (by injection e134)
                 replace hx134_0 := (HB.out.cell (World.block_lt_of_cell? w _ hx134_0)).trans hx134_0
                 replace hx134_1 := (HB.out.cell (World.block_lt_of_cell? w _ hx134_1)).trans hx134_1
                 replace p134 := eq_true p134
                 replace q134 := eq_true q134
                 refine start_ (n := 38) (S := fun w' => w'.cell? ⟨gb121, 0, none⟩ = some (.string a0_0) ∧ w'.cell? ⟨gb121, 1, none⟩ = some (.string a0_1) ∧ w'.cell? ⟨gb121, 2, none⟩ = some (.slice A0_2 l0_2.length c0_2) ∧ w'.cell? ⟨gb121, 3, none⟩ = some (.string a0_3) ∧ w'.cell? ⟨gb121, 4, none⟩ = some (.slice (some ad130) l0_4.length c0_4) ∧ w'.cell? ⟨gb121, 5, none⟩ = some (.slice A0_5 l0_5.length c0_5) ∧ w'.cell? ⟨gb121, 6, none⟩ = some (.slice A0_6 l0_6.length c0_6) ∧ w'.cell? (ad130.add ((x5_3).toNat * 2)) = some (.string ((rd_T73 l0_4 x5_3).f0)) ∧ w'.cell? ⟨(ad130.add ((x5_3).toNat * 2)).block, (ad130.add ((x5_3).toNat * 2)).off + 1, none⟩ = some (.string ((rd_T73 l0_4 x5_3).f1)) ∧ w'.cell? (ad130.add (((ji44)).toNat * 2)) = some (.string ((rd_T73 l0_4 (ji44)).f0)) ∧ w'.cell? ⟨(ad130.add (((ji44)).toNat * 2)).block, (ad130.add (((ji44)).toNat * 2)).off + 1, none⟩ = some (.string ((rd_T73 l0_4 (ji44)).f1)) ∧ w'.cell? (ad130.add ((x5_3).toNat * 2)) = some (.string ((rd_T73 l0_4 x5_3).f0)) ∧ w'.cell? ⟨(ad130.add ((x5_3).toNat * 2)).block, (ad130.add ((x5_3).toNat * 2)).off + 1, none⟩ = some (.string ((rd_T73 l0_4 x5_3).f1)) ∧ w'.cell? (ad130.add ((x5_3).toNat * 2)) = some (.string ((rd_T73 l0_4 x5_3).f0)) ∧ w'.cell? ⟨(ad130.add ((x5_3).toNat * 2)).block, (ad130.add ((x5_3).toNat * 2)).off + 1, none⟩ = some (.string ((rd_T73 l0_4 x5_3).f1))) (ds := []) (tf 38 0) (by kernel_rfl) rfl rfl ⟨(blk_cell BK121.out 0).trans rfl, (blk_cell BK121.out 1).trans rfl, (blk_cell BK121.out 2).trans rfl, (blk_cell BK121.out 3).trans rfl, (blk_cell BK121.out 4).trans rfl, (blk_cell BK121.out 5).trans rfl, (blk_cell BK121.out 6).trans rfl, ((HB.out.cell (World.block_lt_of_cell? w _ hw130_0)).trans hw130_0), ((HB.out.cell (World.block_lt_of_cell? w _ hw130_1)).trans hw130_1), ((HB.out.cell (World.block_lt_of_cell? w _ hw132_0)).trans hw132_0), ((HB.out.cell (World.block_lt_of_cell? w _ hw132_1)).trans hw132_1), ((HB.out.cell (World.block_lt_of_cell? w _ hw133_0)).trans hw133_0), ((HB.out.cell (World.block_lt_of_cell? w _ hw133_1)).trans hw133_1), ((HB.out.cell (World.block_lt_of_cell? w _ hw134_0)).trans hw134_0), ((HB.out.cell (World.block_lt_of_cell? w _ hw134_1)).trans hw134_1)⟩ (fun hHeld => ?_); refine with_tabW spec_l5Usual.tab14 spec_l5Usual.bits14 (fun HT_ HW_ => ?_)
                 generalize wr.drew = w51 at BK121 HB hx130_0 hx130_1 hx132_0 hx132_1 hx133_0 hx133_1 hx134_0 hx134_1 hHeld ⊢
                 refine qA 0 79 (tf 38 1) ?_
                 refine qA 2 81 (tf 38 5) ?_
                 refine qT 1 80 (tf 38 7) ?_
                 refine qA 3 82 (tf 38 15) ?_
                 refine qA 4 83 (tf 38 31) ?_
                 refine qT 5 84 (tf 38 63) ?_
                 refine one_ (i := 6) (N := some 85) (tf 38 127) rfl rfl (one_of HT_.out (by kernel_rfl)) (by decide) (fun K hK => ?_)
                 refine goes_ Try.func21 (by kernel_rfl) rfl #[.string ((rd_T73 l0_4 x5_3).f0)] (by rfl) rfl rfl (by (try simp only [List.map_toArray, List.map_cons, List.map_nil]); first | done | rfl | (simp only [List.length_drop, List.length_take]; rfl)) ?_
                 with_reducible refine (spec_NameOk.calls k3 ((rd_T73 l0_4 x5_3).f0) true _ A41.out).mono ?_
                 rintro e w' ⟨rfl, ⟨nd, rfl⟩⟩
                 refine ⟨_, rfl, ?_⟩
                 refine hK.out _ _ ⟨(blk_cell BK121.out 0).trans rfl, (blk_cell BK121.out 1).trans rfl, (blk_cell BK121.out 2).trans rfl, (blk_cell BK121.out 3).trans rfl, (blk_cell BK121.out 4).trans rfl, (blk_cell BK121.out 5).trans rfl, (blk_cell BK121.out 6).trans rfl, ((HB.out.cell (World.block_lt_of_cell? w _ hw130_0)).trans hw130_0), ((HB.out.cell (World.block_lt_of_cell? w _ hw130_1)).trans hw130_1), ((HB.out.cell (World.block_lt_of_cell? w _ hw132_0)).trans hw132_0), ((HB.out.cell (World.block_lt_of_cell? w _ hw132_1)).trans hw132_1), ((HB.out.cell (World.block_lt_of_cell? w _ hw133_0)).trans hw133_0), ((HB.out.cell (World.block_lt_of_cell? w _ hw133_1)).trans hw133_1), ((HB.out.cell (World.block_lt_of_cell? w _ hw134_0)).trans hw134_0), ((HB.out.cell (World.block_lt_of_cell? w _ hw134_1)).trans hw134_1)⟩ (fun hHeld => ?_)
                 clear hK K
                 refine norm_ (a' := ?_) ?_ ?_
                 rotate_left
                 ·show Act.put _ (some 85) _ = _
                  simp only [Act.put, sT, s0, sS, i64_w, i32_w]
                  rfl
                 refine qA 7 86 (tf 38 255) ?_
                 refine qA 8 87 (tf 38 511) ?_
                 refine qA 9 88 (tf 38 1023) ?_
                 refine qA 10 89 (tf 38 2047) ?_
                 refine qA 11 90 (tf 38 4095) ?_
                 refine qA 12 91 (tf 38 8191) ?_
                 refine qA 14 93 (tf 38 24575) ?_
                 refine qA 15 94 (tf 38 57343) ?_
                 refine qA 19 98 (tf 38 581631) ?_
                 refine qA 21 100 (tf 38 2678783) ?_
                 refine qT 13 92 (tf 38 2686975) ?_
                 refine qA 16 95 (tf 38 2752511) ?_
                 refine qA 17 96 (tf 38 2883583) ?_
                 refine qT 18 97 (tf 38 3145727) ?_
                 refine qT 20 99 (tf 38 4194303) ?_
                 refine qA 22 101 (tf 38 8388607) ?_
                 refine qA 23 102 (tf 38 16777215) ?_
                 refine qT 24 103 (tf 38 33554431) ?_
                 refine qA 25 104 (tf 38 67108863) ?_
                 refine qA 26 105 (tf 38 134217727) ?_
                 refine qA 27 106 (tf 38 268435455) ?_
                 refine qA 28 107 (tf 38 536870911) ?_
                 refine qA 29 108 (tf 38 1073741823) ?_
                 refine qA 31 110 (tf 38 3221225471) ?_
                 refine qT 30 109 (tf 38 4294967295) ?_
                 refine qA 32 111 (tf 38 8589934591) ?_
                 refine qA 33 112 (tf 38 17179869183) ?_
                 refine qT 34 113 (tf 38 34359738367) ?_
                 refine one_ (i := 35) (N := some 114) (tf 38 68719476735) rfl rfl (one_of HT_.out (by kernel_rfl)) (by decide) (fun K hK => ?_)
                 refine goes_ Try.func49 (by kernel_rfl) rfl #[.string ((rd_T73 l0_4 x5_3).f1)] (by rfl) rfl rfl (by (try simp only [List.map_toArray, List.map_cons, List.map_nil]); first | done | rfl | (simp only [List.length_drop, List.length_take]; rfl)) ?_
                 with_reducible refine (spec_l5TextOk.calls k3 ((rd_T73 l0_4 x5_3).f1) true _ A48.out).mono ?_
                 rintro e w' ⟨rfl, ⟨nd, rfl⟩⟩
                 refine ⟨_, rfl, ?_⟩
                 refine hK.out _ _ ⟨(blk_cell BK121.out 0).trans rfl, (blk_cell BK121.out 1).trans rfl, (blk_cell BK121.out 2).trans rfl, (blk_cell BK121.out 3).trans rfl, (blk_cell BK121.out 4).trans rfl, (blk_cell BK121.out 5).trans rfl, (blk_cell BK121.out 6).trans rfl, ((HB.out.cell (World.block_lt_of_cell? w _ hw130_0)).trans hw130_0), ((HB.out.cell (World.block_lt_of_cell? w _ hw130_1)).trans hw130_1), ((HB.out.cell (World.block_lt_of_cell? w _ hw132_0)).trans hw132_0), ((HB.out.cell (World.block_lt_of_cell? w _ hw132_1)).trans hw132_1), ((HB.out.cell (World.block_lt_of_cell? w _ hw133_0)).trans hw133_0), ((HB.out.cell (World.block_lt_of_cell? w _ hw133_1)).trans hw133_1), ((HB.out.cell (World.block_lt_of_cell? w _ hw134_0)).trans hw134_0), ((HB.out.cell (World.block_lt_of_cell? w _ hw134_1)).trans hw134_1)⟩ (fun hHeld => ?_)
                 clear hK K
                 refine norm_ (a' := ?_) ?_ ?_
                 rotate_left
                 ·show Act.put _ (some 114) _ = _
                  simp only [Act.put, sT, s0, sS, i64_w, i32_w]
                  rfl
                 refine qA 36 115 (tf 38 137438953471) ?_
                 refine qA 37 116 (tf 38 274877906943) ?_
                 refine done_ (done_of HT_.out (by kernel_rfl)) ?_
                 try go_wp2
                 go_roundg k3
                 case measure => have := HK1.out; have := HK2.out; have := HK3.out; omega
                 case rel => exact ⟨(wrap64 (x5_3 + 1)), (by first | rfl | (simp; done) | (simp [*]; done)), H', ⟨by have := HK1.out; have := HK2.out; have := HK3.out; omega⟩, ⟨by (with_reducible repeat (first | refine blk_drewN ?_ _ | refine blk_drew ?_ | refine blk_alloc ?_ _)); exact BK121.out⟩, ⟨by repeat (first | (with_reducible first | exact HB.out | apply below_alloc | apply pw_below_drewN | apply below_drew1 | refine below_set ?_ GE121.out) | exact HB.out)⟩⟩
                ·replace c49 := Bool.eq_false_iff.mpr c49
                 subst c49
                 have H1 : (some false) = some r := by rw [if_neg (show ¬ (false = true) by decide)] at H; exact H
                 clear H
                 have H := H1
                 clear H1
                 obtain rfl := Option.some.inj H
                 have hcz52_0 : wr.cell? ⟨gb121, 0, none⟩ = some (.string a0_0) := (blk_cell BK121.out 0).trans rfl
                 have hcz52_1 : wr.cell? ⟨gb121, 1, none⟩ = some (.string a0_1) := (blk_cell BK121.out 1).trans rfl
                 have hcz52_2 : wr.cell? ⟨gb121, 2, none⟩ = some (.slice A0_2 l0_2.length c0_2) := (blk_cell BK121.out 2).trans rfl
                 have hcz52_3 : wr.cell? ⟨gb121, 3, none⟩ = some (.string a0_3) := (blk_cell BK121.out 3).trans rfl
                 have hcz52_4 : wr.cell? ⟨gb121, 4, none⟩ = some (.slice A0_4 l0_4.length c0_4) := (blk_cell BK121.out 4).trans rfl
                 have hcz52_5 : wr.cell? ⟨gb121, 5, none⟩ = some (.slice A0_5 l0_5.length c0_5) := (blk_cell BK121.out 5).trans rfl
                 have hcz52_6 : wr.cell? ⟨gb121, 6, none⟩ = some (.slice A0_6 l0_6.length c0_6) := (blk_cell BK121.out 6).trans rfl
                 have hfz52_0 := blk_frozen BK121.out 0
                 have hfz52_1 := blk_frozen BK121.out 1
                 have hfz52_2 := blk_frozen BK121.out 2
                 have hfz52_3 := blk_frozen BK121.out 3
                 have hfz52_4 := blk_frozen BK121.out 4
                 have hfz52_5 := blk_frozen BK121.out 5
                 have hfz52_6 := blk_frozen BK121.out 6
                 try go_wp2
                 have n0_ := Aside0.mk (blk_drew BK121.out)
                 have n1_ := Aside0.mk (below_drew1 HB.out)
                 clear BK121
                 clear HB
                 have BK121 := n0_
                 have HB := n1_
                 clear n0_ n1_
                 have p130 : 0 ≤ (x5_3 : Int) := of_decide_eq_true (by first | (with_reducible assumption) | assumption)
                 have q130 : x5_3 < (l0_4.length : Int) := of_decide_eq_true (by first | (with_reducible assumption) | assumption)
                 obtain ⟨ad130, e130, hx130_0, hx130_1⟩ := at_T73 HR0_4.out x5_3 p130 q130
                 have hw130_1 := hx130_1
                 have hw130_0 := hx130_0
                 cases e130
                 replace hx130_0 := (HB.out.cell (World.block_lt_of_cell? w _ hx130_0)).trans hx130_0
                 replace hx130_1 := (HB.out.cell (World.block_lt_of_cell? w _ hx130_1)).trans hx130_1
                 replace p130 := eq_true p130
                 replace q130 := eq_true q130
                 have p132 : 0 ≤ ((ji44) : Int) := of_decide_eq_true (by first | (with_reducible assumption) | assumption)
                 have q132 : (ji44) < (l0_4.length : Int) := of_decide_eq_true (by first | (with_reducible assumption) | assumption)
                 obtain ⟨ad132, e132, hx132_0, hx132_1⟩ := at_T73 HR0_4.out (ji44) p132 q132
                 have hw132_1 := hx132_1
                 have hw132_0 := hx132_0
                 obtain rfl : ad130 = ad132 := (by injection e132)
                 replace hx132_0 := (HB.out.cell (World.block_lt_of_cell? w _ hx132_0)).trans hx132_0
                 replace hx132_1 := (HB.out.cell (World.block_lt_of_cell? w _ hx132_1)).trans hx132_1
                 replace p132 := eq_true p132
                 replace q132 := eq_true q132
                 have p133 : 0 ≤ (x5_3 : Int) := of_decide_eq_true (by first | (with_reducible assumption) | assumption)
                 have q133 : x5_3 < (l0_4.length : Int) := of_decide_eq_true (by first | (with_reducible assumption) | assumption)
                 obtain ⟨ad133, e133, hx133_0, hx133_1⟩ := at_T73 HR0_4.out x5_3 p133 q133
                 have hw133_1 := hx133_1
                 have hw133_0 := hx133_0
                 obtain rfl : ad130 = ad133 := (by injection e133)
                 replace hx133_0 := (HB.out.cell (World.block_lt_of_cell? w _ hx133_0)).trans hx133_0
                 replace hx133_1 := (HB.out.cell (World.block_lt_of_cell? w _ hx133_1)).trans hx133_1
                 replace p133 := eq_true p133
                 replace q133 := eq_true q133
                 have p134 : 0 ≤ (x5_3 : Int) := of_decide_eq_true (by first | (with_reducible assumption) | assumption)
                 have q134 : x5_3 < (l0_4.length : Int) := of_decide_eq_true (by first | (with_reducible assumption) | assumption)
                 obtain ⟨ad134, e134, hx134_0, hx134_1⟩ := at_T73 HR0_4.out x5_3 p134 q134
                 have hw134_1 := hx134_1
                 have hw134_0 := hx134_0
                 obtain rfl : ad130 = ad134 := (by injection e134)
                 replace hx134_0 := (HB.out.cell (World.block_lt_of_cell? w _ hx134_0)).trans hx134_0
                 replace hx134_1 := (HB.out.cell (World.block_lt_of_cell? w _ hx134_1)).trans hx134_1
                 replace p134 := eq_true p134
                 replace q134 := eq_true q134
                 refine start_ (n := 38) (S := fun w' => w'.cell? ⟨gb121, 0, none⟩ = some (.string a0_0) ∧ w'.cell? ⟨gb121, 1, none⟩ = some (.string a0_1) ∧ w'.cell? ⟨gb121, 2, none⟩ = some (.slice A0_2 l0_2.length c0_2) ∧ w'.cell? ⟨gb121, 3, none⟩ = some (.string a0_3) ∧ w'.cell? ⟨gb121, 4, none⟩ = some (.slice (some ad130) l0_4.length c0_4) ∧ w'.cell? ⟨gb121, 5, none⟩ = some (.slice A0_5 l0_5.length c0_5) ∧ w'.cell? ⟨gb121, 6, none⟩ = some (.slice A0_6 l0_6.length c0_6) ∧ w'.cell? (ad130.add ((x5_3).toNat * 2)) = some (.string ((rd_T73 l0_4 x5_3).f0)) ∧ w'.cell? ⟨(ad130.add ((x5_3).toNat * 2)).block, (ad130.add ((x5_3).toNat * 2)).off + 1, none⟩ = some (.string ((rd_T73 l0_4 x5_3).f1)) ∧ w'.cell? (ad130.add (((ji44)).toNat * 2)) = some (.string ((rd_T73 l0_4 (ji44)).f0)) ∧ w'.cell? ⟨(ad130.add (((ji44)).toNat * 2)).block, (ad130.add (((ji44)).toNat * 2)).off + 1, none⟩ = some (.string ((rd_T73 l0_4 (ji44)).f1)) ∧ w'.cell? (ad130.add ((x5_3).toNat * 2)) = some (.string ((rd_T73 l0_4 x5_3).f0)) ∧ w'.cell? ⟨(ad130.add ((x5_3).toNat * 2)).block, (ad130.add ((x5_3).toNat * 2)).off + 1, none⟩ = some (.string ((rd_T73 l0_4 x5_3).f1)) ∧ w'.cell? (ad130.add ((x5_3).toNat * 2)) = some (.string ((rd_T73 l0_4 x5_3).f0)) ∧ w'.cell? ⟨(ad130.add ((x5_3).toNat * 2)).block, (ad130.add ((x5_3).toNat * 2)).off + 1, none⟩ = some (.string ((rd_T73 l0_4 x5_3).f1))) (ds := []) (tf 38 0) (by kernel_rfl) rfl rfl ⟨(blk_cell BK121.out 0).trans rfl, (blk_cell BK121.out 1).trans rfl, (blk_cell BK121.out 2).trans rfl, (blk_cell BK121.out 3).trans rfl, (blk_cell BK121.out 4).trans rfl, (blk_cell BK121.out 5).trans rfl, (blk_cell BK121.out 6).trans rfl, ((HB.out.cell (World.block_lt_of_cell? w _ hw130_0)).trans hw130_0), ((HB.out.cell (World.block_lt_of_cell? w _ hw130_1)).trans hw130_1), ((HB.out.cell (World.block_lt_of_cell? w _ hw132_0)).trans hw132_0), ((HB.out.cell (World.block_lt_of_cell? w _ hw132_1)).trans hw132_1), ((HB.out.cell (World.block_lt_of_cell? w _ hw133_0)).trans hw133_0), ((HB.out.cell (World.block_lt_of_cell? w _ hw133_1)).trans hw133_1), ((HB.out.cell (World.block_lt_of_cell? w _ hw134_0)).trans hw134_0), ((HB.out.cell (World.block_lt_of_cell? w _ hw134_1)).trans hw134_1)⟩ (fun hHeld => ?_); refine with_tabW spec_l5Usual.tab14 spec_l5Usual.bits14 (fun HT_ HW_ => ?_)
                 generalize wr.drew = w53 at BK121 HB hx130_0 hx130_1 hx132_0 hx132_1 hx133_0 hx133_1 hx134_0 hx134_1 hHeld ⊢
                 refine qA 0 79 (tf 38 1) ?_
                 refine qA 2 81 (tf 38 5) ?_
                 refine qT 1 80 (tf 38 7) ?_
                 refine qA 3 82 (tf 38 15) ?_
                 refine qA 4 83 (tf 38 31) ?_
                 refine qT 5 84 (tf 38 63) ?_
                 refine one_ (i := 6) (N := some 85) (tf 38 127) rfl rfl (one_of HT_.out (by kernel_rfl)) (by decide) (fun K hK => ?_)
                 refine goes_ Try.func21 (by kernel_rfl) rfl #[.string ((rd_T73 l0_4 x5_3).f0)] (by rfl) rfl rfl (by (try simp only [List.map_toArray, List.map_cons, List.map_nil]); first | done | rfl | (simp only [List.length_drop, List.length_take]; rfl)) ?_
                 with_reducible refine (spec_NameOk.calls k3 ((rd_T73 l0_4 x5_3).f0) true _ A41.out).mono ?_
                 rintro e w' ⟨rfl, ⟨nd, rfl⟩⟩
                 refine ⟨_, rfl, ?_⟩
                 refine hK.out _ _ ⟨(blk_cell BK121.out 0).trans rfl, (blk_cell BK121.out 1).trans rfl, (blk_cell BK121.out 2).trans rfl, (blk_cell BK121.out 3).trans rfl, (blk_cell BK121.out 4).trans rfl, (blk_cell BK121.out 5).trans rfl, (blk_cell BK121.out 6).trans rfl, ((HB.out.cell (World.block_lt_of_cell? w _ hw130_0)).trans hw130_0), ((HB.out.cell (World.block_lt_of_cell? w _ hw130_1)).trans hw130_1), ((HB.out.cell (World.block_lt_of_cell? w _ hw132_0)).trans hw132_0), ((HB.out.cell (World.block_lt_of_cell? w _ hw132_1)).trans hw132_1), ((HB.out.cell (World.block_lt_of_cell? w _ hw133_0)).trans hw133_0), ((HB.out.cell (World.block_lt_of_cell? w _ hw133_1)).trans hw133_1), ((HB.out.cell (World.block_lt_of_cell? w _ hw134_0)).trans hw134_0), ((HB.out.cell (World.block_lt_of_cell? w _ hw134_1)).trans hw134_1)⟩ (fun hHeld => ?_)
                 clear hK K
                 refine norm_ (a' := ?_) ?_ ?_
                 rotate_left
                 ·show Act.put _ (some 85) _ = _
                  simp only [Act.put, sT, s0, sS, i64_w, i32_w]
                  rfl
                 refine qA 7 86 (tf 38 255) ?_
                 refine qA 8 87 (tf 38 511) ?_
                 refine qA 9 88 (tf 38 1023) ?_
                 refine qA 10 89 (tf 38 2047) ?_
                 refine qA 11 90 (tf 38 4095) ?_
                 refine qA 12 91 (tf 38 8191) ?_
                 refine qA 14 93 (tf 38 24575) ?_
                 refine qA 15 94 (tf 38 57343) ?_
                 refine qA 19 98 (tf 38 581631) ?_
                 refine qA 21 100 (tf 38 2678783) ?_
                 refine qT 13 92 (tf 38 2686975) ?_
                 refine qA 16 95 (tf 38 2752511) ?_
                 refine qA 17 96 (tf 38 2883583) ?_
                 refine qT 18 97 (tf 38 3145727) ?_
                 refine qT 20 99 (tf 38 4194303) ?_
                 refine qA 22 101 (tf 38 8388607) ?_
                 refine qA 23 102 (tf 38 16777215) ?_
                 refine qT 24 103 (tf 38 33554431) ?_
                 refine qA 25 104 (tf 38 67108863) ?_
                 refine qA 26 105 (tf 38 134217727) ?_
                 refine qA 27 106 (tf 38 268435455) ?_
                 refine qA 28 107 (tf 38 536870911) ?_
                 refine qA 29 108 (tf 38 1073741823) ?_
                 refine qA 31 110 (tf 38 3221225471) ?_
                 refine qT 30 109 (tf 38 4294967295) ?_
                 refine qA 32 111 (tf 38 8589934591) ?_
                 refine qA 33 112 (tf 38 17179869183) ?_
                 refine qT 34 113 (tf 38 34359738367) ?_
                 refine one_ (i := 35) (N := some 114) (tf 38 68719476735) rfl rfl (one_of HT_.out (by kernel_rfl)) (by decide) (fun K hK => ?_)
                 refine goes_ Try.func49 (by kernel_rfl) rfl #[.string ((rd_T73 l0_4 x5_3).f1)] (by rfl) rfl rfl (by (try simp only [List.map_toArray, List.map_cons, List.map_nil]); first | done | rfl | (simp only [List.length_drop, List.length_take]; rfl)) ?_
                 with_reducible refine (spec_l5TextOk.calls k3 ((rd_T73 l0_4 x5_3).f1) false _ A48.out).mono ?_
                 rintro e w' ⟨rfl, ⟨nd, rfl⟩⟩
                 refine ⟨_, rfl, ?_⟩
                 refine hK.out _ _ ⟨(blk_cell BK121.out 0).trans rfl, (blk_cell BK121.out 1).trans rfl, (blk_cell BK121.out 2).trans rfl, (blk_cell BK121.out 3).trans rfl, (blk_cell BK121.out 4).trans rfl, (blk_cell BK121.out 5).trans rfl, (blk_cell BK121.out 6).trans rfl, ((HB.out.cell (World.block_lt_of_cell? w _ hw130_0)).trans hw130_0), ((HB.out.cell (World.block_lt_of_cell? w _ hw130_1)).trans hw130_1), ((HB.out.cell (World.block_lt_of_cell? w _ hw132_0)).trans hw132_0), ((HB.out.cell (World.block_lt_of_cell? w _ hw132_1)).trans hw132_1), ((HB.out.cell (World.block_lt_of_cell? w _ hw133_0)).trans hw133_0), ((HB.out.cell (World.block_lt_of_cell? w _ hw133_1)).trans hw133_1), ((HB.out.cell (World.block_lt_of_cell? w _ hw134_0)).trans hw134_0), ((HB.out.cell (World.block_lt_of_cell? w _ hw134_1)).trans hw134_1)⟩ (fun hHeld => ?_)
                 clear hK K
                 refine norm_ (a' := ?_) ?_ ?_
                 rotate_left
                 ·show Act.put _ (some 114) _ = _
                  simp only [Act.put, sT, s0, sS, i64_w, i32_w]
                  rfl
                 refine qA 36 115 (tf 38 137438953471) ?_
                 refine qA 37 116 (tf 38 274877906943) ?_
                 refine done_ (done_of HT_.out (by kernel_rfl)) ?_
                 try go_wp2
                 go_ret
                 exact ⟨by first | rfl | (simp [errW_none, errW_some] <;> rfl) | (simp only [← hji44]; first | rfl | (simp [errW_none, errW_some] <;> rfl)) | (simp [*, errW_none, errW_some] <;> rfl), by repeat (first | (with_reducible first | exact HB.out | apply below_alloc | apply pw_below_drewN | apply below_drew1 | refine below_set ?_ GE121.out) | exact HB.out)⟩
               ·rw [if_neg c47] at H
                have c47b0 : (Op.bytesLess (((rd_T73 l0_4 (ji44)).f0).toList) (((rd_T73 l0_4 x5_3).f0).toList)) = false := by simpa using c47
                clear c47
                obtain rfl := Option.some.inj H
                have hcz54_0 : wr.cell? ⟨gb121, 0, none⟩ = some (.string a0_0) := (blk_cell BK121.out 0).trans rfl
                have hcz54_1 : wr.cell? ⟨gb121, 1, none⟩ = some (.string a0_1) := (blk_cell BK121.out 1).trans rfl
                have hcz54_2 : wr.cell? ⟨gb121, 2, none⟩ = some (.slice A0_2 l0_2.length c0_2) := (blk_cell BK121.out 2).trans rfl
                have hcz54_3 : wr.cell? ⟨gb121, 3, none⟩ = some (.string a0_3) := (blk_cell BK121.out 3).trans rfl
                have hcz54_4 : wr.cell? ⟨gb121, 4, none⟩ = some (.slice A0_4 l0_4.length c0_4) := (blk_cell BK121.out 4).trans rfl
                have hcz54_5 : wr.cell? ⟨gb121, 5, none⟩ = some (.slice A0_5 l0_5.length c0_5) := (blk_cell BK121.out 5).trans rfl
                have hcz54_6 : wr.cell? ⟨gb121, 6, none⟩ = some (.slice A0_6 l0_6.length c0_6) := (blk_cell BK121.out 6).trans rfl
                have hfz54_0 := blk_frozen BK121.out 0
                have hfz54_1 := blk_frozen BK121.out 1
                have hfz54_2 := blk_frozen BK121.out 2
                have hfz54_3 := blk_frozen BK121.out 3
                have hfz54_4 := blk_frozen BK121.out 4
                have hfz54_5 := blk_frozen BK121.out 5
                have hfz54_6 := blk_frozen BK121.out 6
                try go_wp2
                have n0_ := Aside0.mk (blk_drew BK121.out)
                have n1_ := Aside0.mk (below_drew1 HB.out)
                clear BK121
                clear HB
                have BK121 := n0_
                have HB := n1_
                clear n0_ n1_
                have p130 : 0 ≤ (x5_3 : Int) := of_decide_eq_true (by first | (with_reducible assumption) | assumption)
                have q130 : x5_3 < (l0_4.length : Int) := of_decide_eq_true (by first | (with_reducible assumption) | assumption)
                obtain ⟨ad130, e130, hx130_0, hx130_1⟩ := at_T73 HR0_4.out x5_3 p130 q130
                have hw130_1 := hx130_1
                have hw130_0 := hx130_0
                cases e130
                replace hx130_0 := (HB.out.cell (World.block_lt_of_cell? w _ hx130_0)).trans hx130_0
                replace hx130_1 := (HB.out.cell (World.block_lt_of_cell? w _ hx130_1)).trans hx130_1
                replace p130 := eq_true p130
                replace q130 := eq_true q130
                have p132 : 0 ≤ ((ji44) : Int) := of_decide_eq_true (by first | (with_reducible assumption) | assumption)
                have q132 : (ji44) < (l0_4.length : Int) := of_decide_eq_true (by first | (with_reducible assumption) | assumption)
                obtain ⟨ad132, e132, hx132_0, hx132_1⟩ := at_T73 HR0_4.out (ji44) p132 q132
                have hw132_1 := hx132_1
                have hw132_0 := hx132_0
                obtain rfl : ad130 = ad132 := (by injection e132)
                replace hx132_0 := (HB.out.cell (World.block_lt_of_cell? w _ hx132_0)).trans hx132_0
                replace hx132_1 := (HB.out.cell (World.block_lt_of_cell? w _ hx132_1)).trans hx132_1
                replace p132 := eq_true p132
                replace q132 := eq_true q132
                have p133 : 0 ≤ (x5_3 : Int) := of_decide_eq_true (by first | (with_reducible assumption) | assumption)
                have q133 : x5_3 < (l0_4.length : Int) := of_decide_eq_true (by first | (with_reducible assumption) | assumption)
                obtain ⟨ad133, e133, hx133_0, hx133_1⟩ := at_T73 HR0_4.out x5_3 p133 q133
                have hw133_1 := hx133_1
                have hw133_0 := hx133_0
                obtain rfl : ad130 = ad133 := (by injection e133)
                replace hx133_0 := (HB.out.cell (World.block_lt_of_cell? w _ hx133_0)).trans hx133_0
                replace hx133_1 := (HB.out.cell (World.block_lt_of_cell? w _ hx133_1)).trans hx133_1
                replace p133 := eq_true p133
                replace q133 := eq_true q133
                refine start_ (n := 38) (S := fun w' => w'.cell? ⟨gb121, 0, none⟩ = some (.string a0_0) ∧ w'.cell? ⟨gb121, 1, none⟩ = some (.string a0_1) ∧ w'.cell? ⟨gb121, 2, none⟩ = some (.slice A0_2 l0_2.length c0_2) ∧ w'.cell? ⟨gb121, 3, none⟩ = some (.string a0_3) ∧ w'.cell? ⟨gb121, 4, none⟩ = some (.slice (some ad130) l0_4.length c0_4) ∧ w'.cell? ⟨gb121, 5, none⟩ = some (.slice A0_5 l0_5.length c0_5) ∧ w'.cell? ⟨gb121, 6, none⟩ = some (.slice A0_6 l0_6.length c0_6) ∧ w'.cell? (ad130.add ((x5_3).toNat * 2)) = some (.string ((rd_T73 l0_4 x5_3).f0)) ∧ w'.cell? ⟨(ad130.add ((x5_3).toNat * 2)).block, (ad130.add ((x5_3).toNat * 2)).off + 1, none⟩ = some (.string ((rd_T73 l0_4 x5_3).f1)) ∧ w'.cell? (ad130.add (((ji44)).toNat * 2)) = some (.string ((rd_T73 l0_4 (ji44)).f0)) ∧ w'.cell? ⟨(ad130.add (((ji44)).toNat * 2)).block, (ad130.add (((ji44)).toNat * 2)).off + 1, none⟩ = some (.string ((rd_T73 l0_4 (ji44)).f1)) ∧ w'.cell? (ad130.add ((x5_3).toNat * 2)) = some (.string ((rd_T73 l0_4 x5_3).f0)) ∧ w'.cell? ⟨(ad130.add ((x5_3).toNat * 2)).block, (ad130.add ((x5_3).toNat * 2)).off + 1, none⟩ = some (.string ((rd_T73 l0_4 x5_3).f1))) (ds := []) (tf 38 0) (by kernel_rfl) rfl rfl ⟨(blk_cell BK121.out 0).trans rfl, (blk_cell BK121.out 1).trans rfl, (blk_cell BK121.out 2).trans rfl, (blk_cell BK121.out 3).trans rfl, (blk_cell BK121.out 4).trans rfl, (blk_cell BK121.out 5).trans rfl, (blk_cell BK121.out 6).trans rfl, ((HB.out.cell (World.block_lt_of_cell? w _ hw130_0)).trans hw130_0), ((HB.out.cell (World.block_lt_of_cell? w _ hw130_1)).trans hw130_1), ((HB.out.cell (World.block_lt_of_cell? w _ hw132_0)).trans hw132_0), ((HB.out.cell (World.block_lt_of_cell? w _ hw132_1)).trans hw132_1), ((HB.out.cell (World.block_lt_of_cell? w _ hw133_0)).trans hw133_0), ((HB.out.cell (World.block_lt_of_cell? w _ hw133_1)).trans hw133_1)⟩ (fun hHeld => ?_); refine with_tabW spec_l5Usual.tab14 spec_l5Usual.bits14 (fun HT_ HW_ => ?_)
                generalize wr.drew = w55 at BK121 HB hx130_0 hx130_1 hx132_0 hx132_1 hx133_0 hx133_1 hHeld ⊢
                refine qA 0 79 (tf 38 1) ?_
                refine qA 2 81 (tf 38 5) ?_
                refine qT 1 80 (tf 38 7) ?_
                refine qA 3 82 (tf 38 15) ?_
                refine qA 4 83 (tf 38 31) ?_
                refine qT 5 84 (tf 38 63) ?_
                refine one_ (i := 6) (N := some 85) (tf 38 127) rfl rfl (one_of HT_.out (by kernel_rfl)) (by decide) (fun K hK => ?_)
                refine goes_ Try.func21 (by kernel_rfl) rfl #[.string ((rd_T73 l0_4 x5_3).f0)] (by rfl) rfl rfl (by (try simp only [List.map_toArray, List.map_cons, List.map_nil]); first | done | rfl | (simp only [List.length_drop, List.length_take]; rfl)) ?_
                with_reducible refine (spec_NameOk.calls k3 ((rd_T73 l0_4 x5_3).f0) true _ A41.out).mono ?_
                rintro e w' ⟨rfl, ⟨nd, rfl⟩⟩
                refine ⟨_, rfl, ?_⟩
                refine hK.out _ _ ⟨(blk_cell BK121.out 0).trans rfl, (blk_cell BK121.out 1).trans rfl, (blk_cell BK121.out 2).trans rfl, (blk_cell BK121.out 3).trans rfl, (blk_cell BK121.out 4).trans rfl, (blk_cell BK121.out 5).trans rfl, (blk_cell BK121.out 6).trans rfl, ((HB.out.cell (World.block_lt_of_cell? w _ hw130_0)).trans hw130_0), ((HB.out.cell (World.block_lt_of_cell? w _ hw130_1)).trans hw130_1), ((HB.out.cell (World.block_lt_of_cell? w _ hw132_0)).trans hw132_0), ((HB.out.cell (World.block_lt_of_cell? w _ hw132_1)).trans hw132_1), ((HB.out.cell (World.block_lt_of_cell? w _ hw133_0)).trans hw133_0), ((HB.out.cell (World.block_lt_of_cell? w _ hw133_1)).trans hw133_1)⟩ (fun hHeld => ?_)
                clear hK K
                refine norm_ (a' := ?_) ?_ ?_
                rotate_left
                ·show Act.put _ (some 85) _ = _
                 simp only [Act.put, sT, s0, sS, i64_w, i32_w]
                 rfl
                refine qA 7 86 (tf 38 255) ?_
                refine qA 8 87 (tf 38 511) ?_
                refine qA 9 88 (tf 38 1023) ?_
                refine qA 10 89 (tf 38 2047) ?_
                refine qA 11 90 (tf 38 4095) ?_
                refine qA 12 91 (tf 38 8191) ?_
                refine qA 14 93 (tf 38 24575) ?_
                refine qA 15 94 (tf 38 57343) ?_
                refine qA 19 98 (tf 38 581631) ?_
                refine qA 21 100 (tf 38 2678783) ?_
                refine qT 13 92 (tf 38 2686975) ?_
                refine qA 16 95 (tf 38 2752511) ?_
                refine qA 17 96 (tf 38 2883583) ?_
                refine qT 18 97 (tf 38 3145727) ?_
                refine qT 20 99 (tf 38 4194303) ?_
                refine qA 22 101 (tf 38 8388607) ?_
                refine qA 23 102 (tf 38 16777215) ?_
                refine qT 24 103 (tf 38 33554431) ?_
                refine qA 25 104 (tf 38 67108863) ?_
                refine qA 26 105 (tf 38 134217727) ?_
                refine qA 27 106 (tf 38 268435455) ?_
                refine qA 28 107 (tf 38 536870911) ?_
                refine qU 29 108 (tf 38 1073741823) ?_
                refine qU 30 109 (tf 38 2147483647) ?_
                refine qU 31 110 (tf 38 4294967295) ?_
                refine qU 32 111 (tf 38 8589934591) ?_
                refine qU 33 112 (tf 38 17179869183) ?_
                refine qU 34 113 (tf 38 34359738367) ?_
                refine qU 35 114 (tf 38 68719476735) ?_
                refine qU 36 115 (tf 38 137438953471) ?_
                refine qA 37 116 (tf 38 274877906943) ?_
                refine done_ (done_of HT_.out (by kernel_rfl)) ?_
                try go_wp2
                go_ret
                exact ⟨by first | rfl | (simp [errW_none, errW_some] <;> rfl) | (simp only [← hji44]; first | rfl | (simp [errW_none, errW_some] <;> rfl)) | (simp [*, errW_none, errW_some] <;> rfl), by repeat (first | (with_reducible first | exact HB.out | apply below_alloc | apply pw_below_drewN | apply below_drew1 | refine below_set ?_ GE121.out) | exact HB.out)⟩
              ·rw [if_neg c46] at H
               exact absurd H (by simp)
             ·rw [if_neg c45] at H
              exact absurd H (by simp)
            ·rw [if_neg c43] at H
             have c43b0 : decide (0 < x5_3) = false := decide_eq_false c43
             clear c43
             replace H := Option.bind_eq_some_iff.mp H
             obtain ⟨t137, A560, H⟩ := H
             replace H : (if t137 = true then (spec_l5Usual.l2 k3 (wrap64 (x5_3 + 1)) a0_0 a0_1 l0_2 a0_3 l0_4 l0_5 l0_6) else (some false)) = some r := H
             have A56 := Aside0.mk A560
             clear A560
             by_cases c57 : t137 = true
             ·subst c57
              have H1 : (spec_l5Usual.l2 k3 (wrap64 (x5_3 + 1)) a0_0 a0_1 l0_2 a0_3 l0_4 l0_5 l0_6) = some r := by rw [if_pos rfl] at H; exact H
              clear H
              have H := H1
              clear H1
              have H' := Aside0.mk H
              clear H
              have hcz58_0 : wr.cell? ⟨gb121, 0, none⟩ = some (.string a0_0) := (blk_cell BK121.out 0).trans rfl
              have hcz58_1 : wr.cell? ⟨gb121, 1, none⟩ = some (.string a0_1) := (blk_cell BK121.out 1).trans rfl
              have hcz58_2 : wr.cell? ⟨gb121, 2, none⟩ = some (.slice A0_2 l0_2.length c0_2) := (blk_cell BK121.out 2).trans rfl
              have hcz58_3 : wr.cell? ⟨gb121, 3, none⟩ = some (.string a0_3) := (blk_cell BK121.out 3).trans rfl
              have hcz58_4 : wr.cell? ⟨gb121, 4, none⟩ = some (.slice A0_4 l0_4.length c0_4) := (blk_cell BK121.out 4).trans rfl
              have hcz58_5 : wr.cell? ⟨gb121, 5, none⟩ = some (.slice A0_5 l0_5.length c0_5) := (blk_cell BK121.out 5).trans rfl
              have hcz58_6 : wr.cell? ⟨gb121, 6, none⟩ = some (.slice A0_6 l0_6.length c0_6) := (blk_cell BK121.out 6).trans rfl
              have hfz58_0 := blk_frozen BK121.out 0
              have hfz58_1 := blk_frozen BK121.out 1
              have hfz58_2 := blk_frozen BK121.out 2
              have hfz58_3 := blk_frozen BK121.out 3
              have hfz58_4 := blk_frozen BK121.out 4
              have hfz58_5 := blk_frozen BK121.out 5
              have hfz58_6 := blk_frozen BK121.out 6
              try go_wp2
              have n0_ := Aside0.mk (blk_drew BK121.out)
              have n1_ := Aside0.mk (below_drew1 HB.out)
              clear BK121
              clear HB
              have BK121 := n0_
              have HB := n1_
              clear n0_ n1_
              have p130 : 0 ≤ (x5_3 : Int) := of_decide_eq_true (by first | (with_reducible assumption) | assumption)
              have q130 : x5_3 < (l0_4.length : Int) := of_decide_eq_true (by first | (with_reducible assumption) | assumption)
              obtain ⟨ad130, e130, hx130_0, hx130_1⟩ := at_T73 HR0_4.out x5_3 p130 q130
              have hw130_1 := hx130_1
              have hw130_0 := hx130_0
              cases e130
              replace hx130_0 := (HB.out.cell (World.block_lt_of_cell? w _ hx130_0)).trans hx130_0
              replace hx130_1 := (HB.out.cell (World.block_lt_of_cell? w _ hx130_1)).trans hx130_1
              replace p130 := eq_true p130
              replace q130 := eq_true q130
              have p136 : 0 ≤ (x5_3 : Int) := of_decide_eq_true (by first | (with_reducible assumption) | assumption)
              have q136 : x5_3 < (l0_4.length : Int) := of_decide_eq_true (by first | (with_reducible assumption) | assumption)
              obtain ⟨ad136, e136, hx136_0, hx136_1⟩ := at_T73 HR0_4.out x5_3 p136 q136
              have hw136_1 := hx136_1
              have hw136_0 := hx136_0
              obtain rfl : ad130 = ad136 := (by injection e136)
              replace hx136_0 := (HB.out.cell (World.block_lt_of_cell? w _ hx136_0)).trans hx136_0
              replace hx136_1 := (HB.out.cell (World.block_lt_of_cell? w _ hx136_1)).trans hx136_1
              replace p136 := eq_true p136
              replace q136 := eq_true q136
              refine start_ (n := 38) (S := fun w' => w'.cell? ⟨gb121, 0, none⟩ = some (.string a0_0) ∧ w'.cell? ⟨gb121, 1, none⟩ = some (.string a0_1) ∧ w'.cell? ⟨gb121, 2, none⟩ = some (.slice A0_2 l0_2.length c0_2) ∧ w'.cell? ⟨gb121, 3, none⟩ = some (.string a0_3) ∧ w'.cell? ⟨gb121, 4, none⟩ = some (.slice (some ad130) l0_4.length c0_4) ∧ w'.cell? ⟨gb121, 5, none⟩ = some (.slice A0_5 l0_5.length c0_5) ∧ w'.cell? ⟨gb121, 6, none⟩ = some (.slice A0_6 l0_6.length c0_6) ∧ w'.cell? (ad130.add ((x5_3).toNat * 2)) = some (.string ((rd_T73 l0_4 x5_3).f0)) ∧ w'.cell? ⟨(ad130.add ((x5_3).toNat * 2)).block, (ad130.add ((x5_3).toNat * 2)).off + 1, none⟩ = some (.string ((rd_T73 l0_4 x5_3).f1)) ∧ w'.cell? (ad130.add ((x5_3).toNat * 2)) = some (.string ((rd_T73 l0_4 x5_3).f0)) ∧ w'.cell? ⟨(ad130.add ((x5_3).toNat * 2)).block, (ad130.add ((x5_3).toNat * 2)).off + 1, none⟩ = some (.string ((rd_T73 l0_4 x5_3).f1))) (ds := []) (tf 38 0) (by kernel_rfl) rfl rfl ⟨(blk_cell BK121.out 0).trans rfl, (blk_cell BK121.out 1).trans rfl, (blk_cell BK121.out 2).trans rfl, (blk_cell BK121.out 3).trans rfl, (blk_cell BK121.out 4).trans rfl, (blk_cell BK121.out 5).trans rfl, (blk_cell BK121.out 6).trans rfl, ((HB.out.cell (World.block_lt_of_cell? w _ hw130_0)).trans hw130_0), ((HB.out.cell (World.block_lt_of_cell? w _ hw130_1)).trans hw130_1), ((HB.out.cell (World.block_lt_of_cell? w _ hw136_0)).trans hw136_0), ((HB.out.cell (World.block_lt_of_cell? w _ hw136_1)).trans hw136_1)⟩ (fun hHeld => ?_); refine with_tabW spec_l5Usual.tab14 spec_l5Usual.bits14 (fun HT_ HW_ => ?_)
              generalize wr.drew = w59 at BK121 HB hx130_0 hx130_1 hx136_0 hx136_1 hHeld ⊢
              refine qA 0 79 (tf 38 1) ?_
              refine qA 2 81 (tf 38 5) ?_
              refine qT 1 80 (tf 38 7) ?_
              refine qA 3 82 (tf 38 15) ?_
              refine qA 4 83 (tf 38 31) ?_
              refine qT 5 84 (tf 38 63) ?_
              refine one_ (i := 6) (N := some 85) (tf 38 127) rfl rfl (one_of HT_.out (by kernel_rfl)) (by decide) (fun K hK => ?_)
              refine goes_ Try.func21 (by kernel_rfl) rfl #[.string ((rd_T73 l0_4 x5_3).f0)] (by rfl) rfl rfl (by (try simp only [List.map_toArray, List.map_cons, List.map_nil]); first | done | rfl | (simp only [List.length_drop, List.length_take]; rfl)) ?_
              with_reducible refine (spec_NameOk.calls k3 ((rd_T73 l0_4 x5_3).f0) true _ A41.out).mono ?_
              rintro e w' ⟨rfl, ⟨nd, rfl⟩⟩
              refine ⟨_, rfl, ?_⟩
              refine hK.out _ _ ⟨(blk_cell BK121.out 0).trans rfl, (blk_cell BK121.out 1).trans rfl, (blk_cell BK121.out 2).trans rfl, (blk_cell BK121.out 3).trans rfl, (blk_cell BK121.out 4).trans rfl, (blk_cell BK121.out 5).trans rfl, (blk_cell BK121.out 6).trans rfl, ((HB.out.cell (World.block_lt_of_cell? w _ hw130_0)).trans hw130_0), ((HB.out.cell (World.block_lt_of_cell? w _ hw130_1)).trans hw130_1), ((HB.out.cell (World.block_lt_of_cell? w _ hw136_0)).trans hw136_0), ((HB.out.cell (World.block_lt_of_cell? w _ hw136_1)).trans hw136_1)⟩ (fun hHeld => ?_)
              clear hK K
              refine norm_ (a' := ?_) ?_ ?_
              rotate_left
              ·show Act.put _ (some 85) _ = _
               simp only [Act.put, sT, s0, sS, i64_w, i32_w]
               rfl
              refine qA 7 86 (tf 38 255) ?_
              refine qA 8 87 (tf 38 511) ?_
              refine qA 9 88 (tf 38 1023) ?_
              refine qA 10 89 (tf 38 2047) ?_
              refine qA 11 90 (tf 38 4095) ?_
              refine qU 12 91 (tf 38 8191) ?_
              refine qU 13 92 (tf 38 16383) ?_
              refine qU 14 93 (tf 38 32767) ?_
              refine qU 15 94 (tf 38 65535) ?_
              refine qU 16 95 (tf 38 131071) ?_
              refine qU 17 96 (tf 38 262143) ?_
              refine qU 18 97 (tf 38 524287) ?_
              refine qU 19 98 (tf 38 1048575) ?_
              refine qU 20 99 (tf 38 2097151) ?_
              refine qU 21 100 (tf 38 4194303) ?_
              refine qU 22 101 (tf 38 8388607) ?_
              refine qU 23 102 (tf 38 16777215) ?_
              refine qU 24 103 (tf 38 33554431) ?_
              refine qU 25 104 (tf 38 67108863) ?_
              refine qA 26 105 (tf 38 134217727) ?_
              refine qA 27 106 (tf 38 268435455) ?_
              refine qA 28 107 (tf 38 536870911) ?_
              refine qA 29 108 (tf 38 1073741823) ?_
              refine qA 31 110 (tf 38 3221225471) ?_
              refine qT 30 109 (tf 38 4294967295) ?_
              refine qA 32 111 (tf 38 8589934591) ?_
              refine qA 33 112 (tf 38 17179869183) ?_
              refine qT 34 113 (tf 38 34359738367) ?_
              refine one_ (i := 35) (N := some 114) (tf 38 68719476735) rfl rfl (one_of HT_.out (by kernel_rfl)) (by decide) (fun K hK => ?_)
              refine goes_ Try.func49 (by kernel_rfl) rfl #[.string ((rd_T73 l0_4 x5_3).f1)] (by rfl) rfl rfl (by (try simp only [List.map_toArray, List.map_cons, List.map_nil]); first | done | rfl | (simp only [List.length_drop, List.length_take]; rfl)) ?_
              with_reducible refine (spec_l5TextOk.calls k3 ((rd_T73 l0_4 x5_3).f1) true _ A56.out).mono ?_
              rintro e w' ⟨rfl, ⟨nd, rfl⟩⟩
              refine ⟨_, rfl, ?_⟩
              refine hK.out _ _ ⟨(blk_cell BK121.out 0).trans rfl, (blk_cell BK121.out 1).trans rfl, (blk_cell BK121.out 2).trans rfl, (blk_cell BK121.out 3).trans rfl, (blk_cell BK121.out 4).trans rfl, (blk_cell BK121.out 5).trans rfl, (blk_cell BK121.out 6).trans rfl, ((HB.out.cell (World.block_lt_of_cell? w _ hw130_0)).trans hw130_0), ((HB.out.cell (World.block_lt_of_cell? w _ hw130_1)).trans hw130_1), ((HB.out.cell (World.block_lt_of_cell? w _ hw136_0)).trans hw136_0), ((HB.out.cell (World.block_lt_of_cell? w _ hw136_1)).trans hw136_1)⟩ (fun hHeld => ?_)
              clear hK K
              refine norm_ (a' := ?_) ?_ ?_
              rotate_left
              ·show Act.put _ (some 114) _ = _
               simp only [Act.put, sT, s0, sS, i64_w, i32_w]
               rfl
              refine qA 36 115 (tf 38 137438953471) ?_
              refine qA 37 116 (tf 38 274877906943) ?_
              refine done_ (done_of HT_.out (by kernel_rfl)) ?_
              try go_wp2
              go_roundg k3
              case measure => have := HK1.out; have := HK2.out; have := HK3.out; omega
              case rel => exact ⟨(wrap64 (x5_3 + 1)), (by first | rfl | (simp; done) | (simp [*]; done)), H', ⟨by have := HK1.out; have := HK2.out; have := HK3.out; omega⟩, ⟨by (with_reducible repeat (first | refine blk_drewN ?_ _ | refine blk_drew ?_ | refine blk_alloc ?_ _)); exact BK121.out⟩, ⟨by repeat (first | (with_reducible first | exact HB.out | apply below_alloc | apply pw_below_drewN | apply below_drew1 | refine below_set ?_ GE121.out) | exact HB.out)⟩⟩
             ·replace c57 := Bool.eq_false_iff.mpr c57
              subst c57
              have H1 : (some false) = some r := by rw [if_neg (show ¬ (false = true) by decide)] at H; exact H
              clear H
              have H := H1
              clear H1
              obtain rfl := Option.some.inj H
              have hcz60_0 : wr.cell? ⟨gb121, 0, none⟩ = some (.string a0_0) := (blk_cell BK121.out 0).trans rfl
              have hcz60_1 : wr.cell? ⟨gb121, 1, none⟩ = some (.string a0_1) := (blk_cell BK121.out 1).trans rfl
              have hcz60_2 : wr.cell? ⟨gb121, 2, none⟩ = some (.slice A0_2 l0_2.length c0_2) := (blk_cell BK121.out 2).trans rfl
              have hcz60_3 : wr.cell? ⟨gb121, 3, none⟩ = some (.string a0_3) := (blk_cell BK121.out 3).trans rfl
              have hcz60_4 : wr.cell? ⟨gb121, 4, none⟩ = some (.slice A0_4 l0_4.length c0_4) := (blk_cell BK121.out 4).trans rfl
              have hcz60_5 : wr.cell? ⟨gb121, 5, none⟩ = some (.slice A0_5 l0_5.length c0_5) := (blk_cell BK121.out 5).trans rfl
              have hcz60_6 : wr.cell? ⟨gb121, 6, none⟩ = some (.slice A0_6 l0_6.length c0_6) := (blk_cell BK121.out 6).trans rfl
              have hfz60_0 := blk_frozen BK121.out 0
              have hfz60_1 := blk_frozen BK121.out 1
              have hfz60_2 := blk_frozen BK121.out 2
              have hfz60_3 := blk_frozen BK121.out 3
              have hfz60_4 := blk_frozen BK121.out 4
              have hfz60_5 := blk_frozen BK121.out 5
              have hfz60_6 := blk_frozen BK121.out 6
              try go_wp2
              have n0_ := Aside0.mk (blk_drew BK121.out)
              have n1_ := Aside0.mk (below_drew1 HB.out)
              clear BK121
              clear HB
              have BK121 := n0_
              have HB := n1_
              clear n0_ n1_
              have p130 : 0 ≤ (x5_3 : Int) := of_decide_eq_true (by first | (with_reducible assumption) | assumption)
              have q130 : x5_3 < (l0_4.length : Int) := of_decide_eq_true (by first | (with_reducible assumption) | assumption)
              obtain ⟨ad130, e130, hx130_0, hx130_1⟩ := at_T73 HR0_4.out x5_3 p130 q130
              have hw130_1 := hx130_1
              have hw130_0 := hx130_0
              cases e130
              replace hx130_0 := (HB.out.cell (World.block_lt_of_cell? w _ hx130_0)).trans hx130_0
              replace hx130_1 := (HB.out.cell (World.block_lt_of_cell? w _ hx130_1)).trans hx130_1
              replace p130 := eq_true p130
              replace q130 := eq_true q130
              have p136 : 0 ≤ (x5_3 : Int) := of_decide_eq_true (by first | (with_reducible assumption) | assumption)
              have q136 : x5_3 < (l0_4.length : Int) := of_decide_eq_true (by first | (with_reducible assumption) | assumption)
              obtain ⟨ad136, e136, hx136_0, hx136_1⟩ := at_T73 HR0_4.out x5_3 p136 q136
              have hw136_1 := hx136_1
              have hw136_0 := hx136_0
              obtain rfl : ad130 = ad136 := (by injection e136)
              replace hx136_0 := (HB.out.cell (World.block_lt_of_cell? w _ hx136_0)).trans hx136_0
              replace hx136_1 := (HB.out.cell (World.block_lt_of_cell? w _ hx136_1)).trans hx136_1
              replace p136 := eq_true p136
              replace q136 := eq_true q136
              refine start_ (n := 38) (S := fun w' => w'.cell? ⟨gb121, 0, none⟩ = some (.string a0_0) ∧ w'.cell? ⟨gb121, 1, none⟩ = some (.string a0_1) ∧ w'.cell? ⟨gb121, 2, none⟩ = some (.slice A0_2 l0_2.length c0_2) ∧ w'.cell? ⟨gb121, 3, none⟩ = some (.string a0_3) ∧ w'.cell? ⟨gb121, 4, none⟩ = some (.slice (some ad130) l0_4.length c0_4) ∧ w'.cell? ⟨gb121, 5, none⟩ = some (.slice A0_5 l0_5.length c0_5) ∧ w'.cell? ⟨gb121, 6, none⟩ = some (.slice A0_6 l0_6.length c0_6) ∧ w'.cell? (ad130.add ((x5_3).toNat * 2)) = some (.string ((rd_T73 l0_4 x5_3).f0)) ∧ w'.cell? ⟨(ad130.add ((x5_3).toNat * 2)).block, (ad130.add ((x5_3).toNat * 2)).off + 1, none⟩ = some (.string ((rd_T73 l0_4 x5_3).f1)) ∧ w'.cell? (ad130.add ((x5_3).toNat * 2)) = some (.string ((rd_T73 l0_4 x5_3).f0)) ∧ w'.cell? ⟨(ad130.add ((x5_3).toNat * 2)).block, (ad130.add ((x5_3).toNat * 2)).off + 1, none⟩ = some (.string ((rd_T73 l0_4 x5_3).f1))) (ds := []) (tf 38 0) (by kernel_rfl) rfl rfl ⟨(blk_cell BK121.out 0).trans rfl, (blk_cell BK121.out 1).trans rfl, (blk_cell BK121.out 2).trans rfl, (blk_cell BK121.out 3).trans rfl, (blk_cell BK121.out 4).trans rfl, (blk_cell BK121.out 5).trans rfl, (blk_cell BK121.out 6).trans rfl, ((HB.out.cell (World.block_lt_of_cell? w _ hw130_0)).trans hw130_0), ((HB.out.cell (World.block_lt_of_cell? w _ hw130_1)).trans hw130_1), ((HB.out.cell (World.block_lt_of_cell? w _ hw136_0)).trans hw136_0), ((HB.out.cell (World.block_lt_of_cell? w _ hw136_1)).trans hw136_1)⟩ (fun hHeld => ?_); refine with_tabW spec_l5Usual.tab14 spec_l5Usual.bits14 (fun HT_ HW_ => ?_)
              generalize wr.drew = w61 at BK121 HB hx130_0 hx130_1 hx136_0 hx136_1 hHeld ⊢
              refine qA 0 79 (tf 38 1) ?_
              refine qA 2 81 (tf 38 5) ?_
              refine qT 1 80 (tf 38 7) ?_
              refine qA 3 82 (tf 38 15) ?_
              refine qA 4 83 (tf 38 31) ?_
              refine qT 5 84 (tf 38 63) ?_
              refine one_ (i := 6) (N := some 85) (tf 38 127) rfl rfl (one_of HT_.out (by kernel_rfl)) (by decide) (fun K hK => ?_)
              refine goes_ Try.func21 (by kernel_rfl) rfl #[.string ((rd_T73 l0_4 x5_3).f0)] (by rfl) rfl rfl (by (try simp only [List.map_toArray, List.map_cons, List.map_nil]); first | done | rfl | (simp only [List.length_drop, List.length_take]; rfl)) ?_
              with_reducible refine (spec_NameOk.calls k3 ((rd_T73 l0_4 x5_3).f0) true _ A41.out).mono ?_
              rintro e w' ⟨rfl, ⟨nd, rfl⟩⟩
              refine ⟨_, rfl, ?_⟩
              refine hK.out _ _ ⟨(blk_cell BK121.out 0).trans rfl, (blk_cell BK121.out 1).trans rfl, (blk_cell BK121.out 2).trans rfl, (blk_cell BK121.out 3).trans rfl, (blk_cell BK121.out 4).trans rfl, (blk_cell BK121.out 5).trans rfl, (blk_cell BK121.out 6).trans rfl, ((HB.out.cell (World.block_lt_of_cell? w _ hw130_0)).trans hw130_0), ((HB.out.cell (World.block_lt_of_cell? w _ hw130_1)).trans hw130_1), ((HB.out.cell (World.block_lt_of_cell? w _ hw136_0)).trans hw136_0), ((HB.out.cell (World.block_lt_of_cell? w _ hw136_1)).trans hw136_1)⟩ (fun hHeld => ?_)
              clear hK K
              refine norm_ (a' := ?_) ?_ ?_
              rotate_left
              ·show Act.put _ (some 85) _ = _
               simp only [Act.put, sT, s0, sS, i64_w, i32_w]
               rfl
              refine qA 7 86 (tf 38 255) ?_
              refine qA 8 87 (tf 38 511) ?_
              refine qA 9 88 (tf 38 1023) ?_
              refine qA 10 89 (tf 38 2047) ?_
              refine qA 11 90 (tf 38 4095) ?_
              refine qU 12 91 (tf 38 8191) ?_
              refine qU 13 92 (tf 38 16383) ?_
              refine qU 14 93 (tf 38 32767) ?_
              refine qU 15 94 (tf 38 65535) ?_
              refine qU 16 95 (tf 38 131071) ?_
              refine qU 17 96 (tf 38 262143) ?_
              refine qU 18 97 (tf 38 524287) ?_
              refine qU 19 98 (tf 38 1048575) ?_
              refine qU 20 99 (tf 38 2097151) ?_
              refine qU 21 100 (tf 38 4194303) ?_
              refine qU 22 101 (tf 38 8388607) ?_
              refine qU 23 102 (tf 38 16777215) ?_
              refine qU 24 103 (tf 38 33554431) ?_
              refine qU 25 104 (tf 38 67108863) ?_
              refine qA 26 105 (tf 38 134217727) ?_
              refine qA 27 106 (tf 38 268435455) ?_
              refine qA 28 107 (tf 38 536870911) ?_
              refine qA 29 108 (tf 38 1073741823) ?_
              refine qA 31 110 (tf 38 3221225471) ?_
              refine qT 30 109 (tf 38 4294967295) ?_
              refine qA 32 111 (tf 38 8589934591) ?_
              refine qA 33 112 (tf 38 17179869183) ?_
              refine qT 34 113 (tf 38 34359738367) ?_
              refine one_ (i := 35) (N := some 114) (tf 38 68719476735) rfl rfl (one_of HT_.out (by kernel_rfl)) (by decide) (fun K hK => ?_)
              refine goes_ Try.func49 (by kernel_rfl) rfl #[.string ((rd_T73 l0_4 x5_3).f1)] (by rfl) rfl rfl (by (try simp only [List.map_toArray, List.map_cons, List.map_nil]); first | done | rfl | (simp only [List.length_drop, List.length_take]; rfl)) ?_
              with_reducible refine (spec_l5TextOk.calls k3 ((rd_T73 l0_4 x5_3).f1) false _ A56.out).mono ?_
              rintro e w' ⟨rfl, ⟨nd, rfl⟩⟩
              refine ⟨_, rfl, ?_⟩
              refine hK.out _ _ ⟨(blk_cell BK121.out 0).trans rfl, (blk_cell BK121.out 1).trans rfl, (blk_cell BK121.out 2).trans rfl, (blk_cell BK121.out 3).trans rfl, (blk_cell BK121.out 4).trans rfl, (blk_cell BK121.out 5).trans rfl, (blk_cell BK121.out 6).trans rfl, ((HB.out.cell (World.block_lt_of_cell? w _ hw130_0)).trans hw130_0), ((HB.out.cell (World.block_lt_of_cell? w _ hw130_1)).trans hw130_1), ((HB.out.cell (World.block_lt_of_cell? w _ hw136_0)).trans hw136_0), ((HB.out.cell (World.block_lt_of_cell? w _ hw136_1)).trans hw136_1)⟩ (fun hHeld => ?_)
              clear hK K
              refine norm_ (a' := ?_) ?_ ?_
              rotate_left
              ·show Act.put _ (some 114) _ = _
               simp only [Act.put, sT, s0, sS, i64_w, i32_w]
               rfl
              refine qA 36 115 (tf 38 137438953471) ?_
              refine qA 37 116 (tf 38 274877906943) ?_
              refine done_ (done_of HT_.out (by kernel_rfl)) ?_
              try go_wp2
              go_ret
              exact ⟨by first | rfl | (simp [errW_none, errW_some] <;> rfl) | (simp [*, errW_none, errW_some] <;> rfl), by repeat (first | (with_reducible first | exact HB.out | apply below_alloc | apply pw_below_drewN | apply below_drew1 | refine below_set ?_ GE121.out) | exact HB.out)⟩
           ·replace c42 := Bool.eq_false_iff.mpr c42
            subst c42
            have H1 : (some false) = some r := by rw [if_neg (show ¬ (false = true) by decide)] at H; exact H
            clear H
            have H := H1
            clear H1
            obtain rfl := Option.some.inj H
            have hcz62_0 : wr.cell? ⟨gb121, 0, none⟩ = some (.string a0_0) := (blk_cell BK121.out 0).trans rfl
            have hcz62_1 : wr.cell? ⟨gb121, 1, none⟩ = some (.string a0_1) := (blk_cell BK121.out 1).trans rfl
            have hcz62_2 : wr.cell? ⟨gb121, 2, none⟩ = some (.slice A0_2 l0_2.length c0_2) := (blk_cell BK121.out 2).trans rfl
            have hcz62_3 : wr.cell? ⟨gb121, 3, none⟩ = some (.string a0_3) := (blk_cell BK121.out 3).trans rfl
            have hcz62_4 : wr.cell? ⟨gb121, 4, none⟩ = some (.slice A0_4 l0_4.length c0_4) := (blk_cell BK121.out 4).trans rfl
            have hcz62_5 : wr.cell? ⟨gb121, 5, none⟩ = some (.slice A0_5 l0_5.length c0_5) := (blk_cell BK121.out 5).trans rfl
            have hcz62_6 : wr.cell? ⟨gb121, 6, none⟩ = some (.slice A0_6 l0_6.length c0_6) := (blk_cell BK121.out 6).trans rfl
            have hfz62_0 := blk_frozen BK121.out 0
            have hfz62_1 := blk_frozen BK121.out 1
            have hfz62_2 := blk_frozen BK121.out 2
            have hfz62_3 := blk_frozen BK121.out 3
            have hfz62_4 := blk_frozen BK121.out 4
            have hfz62_5 := blk_frozen BK121.out 5
            have hfz62_6 := blk_frozen BK121.out 6
            try go_wp2
            have n0_ := Aside0.mk (blk_drew BK121.out)
            have n1_ := Aside0.mk (below_drew1 HB.out)
            clear BK121
            clear HB
            have BK121 := n0_
            have HB := n1_
            clear n0_ n1_
            have p130 : 0 ≤ (x5_3 : Int) := of_decide_eq_true (by first | (with_reducible assumption) | assumption)
            have q130 : x5_3 < (l0_4.length : Int) := of_decide_eq_true (by first | (with_reducible assumption) | assumption)
            obtain ⟨ad130, e130, hx130_0, hx130_1⟩ := at_T73 HR0_4.out x5_3 p130 q130
            have hw130_1 := hx130_1
            have hw130_0 := hx130_0
            cases e130
            replace hx130_0 := (HB.out.cell (World.block_lt_of_cell? w _ hx130_0)).trans hx130_0
            replace hx130_1 := (HB.out.cell (World.block_lt_of_cell? w _ hx130_1)).trans hx130_1
            replace p130 := eq_true p130
            replace q130 := eq_true q130
            refine start_ (n := 38) (S := fun w' => w'.cell? ⟨gb121, 0, none⟩ = some (.string a0_0) ∧ w'.cell? ⟨gb121, 1, none⟩ = some (.string a0_1) ∧ w'.cell? ⟨gb121, 2, none⟩ = some (.slice A0_2 l0_2.length c0_2) ∧ w'.cell? ⟨gb121, 3, none⟩ = some (.string a0_3) ∧ w'.cell? ⟨gb121, 4, none⟩ = some (.slice (some ad130) l0_4.length c0_4) ∧ w'.cell? ⟨gb121, 5, none⟩ = some (.slice A0_5 l0_5.length c0_5) ∧ w'.cell? ⟨gb121, 6, none⟩ = some (.slice A0_6 l0_6.length c0_6) ∧ w'.cell? (ad130.add ((x5_3).toNat * 2)) = some (.string ((rd_T73 l0_4 x5_3).f0)) ∧ w'.cell? ⟨(ad130.add ((x5_3).toNat * 2)).block, (ad130.add ((x5_3).toNat * 2)).off + 1, none⟩ = some (.string ((rd_T73 l0_4 x5_3).f1))) (ds := []) (tf 38 0) (by kernel_rfl) rfl rfl ⟨(blk_cell BK121.out 0).trans rfl, (blk_cell BK121.out 1).trans rfl, (blk_cell BK121.out 2).trans rfl, (blk_cell BK121.out 3).trans rfl, (blk_cell BK121.out 4).trans rfl, (blk_cell BK121.out 5).trans rfl, (blk_cell BK121.out 6).trans rfl, ((HB.out.cell (World.block_lt_of_cell? w _ hw130_0)).trans hw130_0), ((HB.out.cell (World.block_lt_of_cell? w _ hw130_1)).trans hw130_1)⟩ (fun hHeld => ?_); refine with_tabW spec_l5Usual.tab14 spec_l5Usual.bits14 (fun HT_ HW_ => ?_)
            generalize wr.drew = w63 at BK121 HB hx130_0 hx130_1 hHeld ⊢
            refine qA 0 79 (tf 38 1) ?_
            refine qA 2 81 (tf 38 5) ?_
            refine qT 1 80 (tf 38 7) ?_
            refine qA 3 82 (tf 38 15) ?_
            refine qA 4 83 (tf 38 31) ?_
            refine qT 5 84 (tf 38 63) ?_
            refine one_ (i := 6) (N := some 85) (tf 38 127) rfl rfl (one_of HT_.out (by kernel_rfl)) (by decide) (fun K hK => ?_)
            refine goes_ Try.func21 (by kernel_rfl) rfl #[.string ((rd_T73 l0_4 x5_3).f0)] (by rfl) rfl rfl (by (try simp only [List.map_toArray, List.map_cons, List.map_nil]); first | done | rfl | (simp only [List.length_drop, List.length_take]; rfl)) ?_
            with_reducible refine (spec_NameOk.calls k3 ((rd_T73 l0_4 x5_3).f0) false _ A41.out).mono ?_
            rintro e w' ⟨rfl, ⟨nd, rfl⟩⟩
            refine ⟨_, rfl, ?_⟩
            refine hK.out _ _ ⟨(blk_cell BK121.out 0).trans rfl, (blk_cell BK121.out 1).trans rfl, (blk_cell BK121.out 2).trans rfl, (blk_cell BK121.out 3).trans rfl, (blk_cell BK121.out 4).trans rfl, (blk_cell BK121.out 5).trans rfl, (blk_cell BK121.out 6).trans rfl, ((HB.out.cell (World.block_lt_of_cell? w _ hw130_0)).trans hw130_0), ((HB.out.cell (World.block_lt_of_cell? w _ hw130_1)).trans hw130_1)⟩ (fun hHeld => ?_)
            clear hK K
            refine norm_ (a' := ?_) ?_ ?_
            rotate_left
            ·show Act.put _ (some 85) _ = _
             simp only [Act.put, sT, s0, sS, i64_w, i32_w]
             rfl
            refine qA 7 86 (tf 38 255) ?_
            refine qA 8 87 (tf 38 511) ?_
            refine qU 9 88 (tf 38 1023) ?_
            refine qU 10 89 (tf 38 2047) ?_
            refine qU 11 90 (tf 38 4095) ?_
            refine qU 12 91 (tf 38 8191) ?_
            refine qU 13 92 (tf 38 16383) ?_
            refine qU 14 93 (tf 38 32767) ?_
            refine qU 15 94 (tf 38 65535) ?_
            refine qU 16 95 (tf 38 131071) ?_
            refine qU 17 96 (tf 38 262143) ?_
            refine qU 18 97 (tf 38 524287) ?_
            refine qU 19 98 (tf 38 1048575) ?_
            refine qU 20 99 (tf 38 2097151) ?_
            refine qU 21 100 (tf 38 4194303) ?_
            refine qU 22 101 (tf 38 8388607) ?_
            refine qU 23 102 (tf 38 16777215) ?_
            refine qU 24 103 (tf 38 33554431) ?_
            refine qU 25 104 (tf 38 67108863) ?_
            refine qU 26 105 (tf 38 134217727) ?_
            refine qA 27 106 (tf 38 268435455) ?_
            refine qA 28 107 (tf 38 536870911) ?_
            refine qU 29 108 (tf 38 1073741823) ?_
            refine qU 30 109 (tf 38 2147483647) ?_
            refine qU 31 110 (tf 38 4294967295) ?_
            refine qU 32 111 (tf 38 8589934591) ?_
            refine qU 33 112 (tf 38 17179869183) ?_
            refine qU 34 113 (tf 38 34359738367) ?_
            refine qU 35 114 (tf 38 68719476735) ?_
            refine qU 36 115 (tf 38 137438953471) ?_
            refine qA 37 116 (tf 38 274877906943) ?_
            refine done_ (done_of HT_.out (by kernel_rfl)) ?_
            try go_wp2
            go_ret
            exact ⟨by first | rfl | (simp [errW_none, errW_some] <;> rfl) | (simp [*, errW_none, errW_some] <;> rfl), by repeat (first | (with_reducible first | exact HB.out | apply below_alloc | apply pw_below_drewN | apply below_drew1 | refine below_set ?_ GE121.out) | exact HB.out)⟩
          ·rw [if_neg c40] at H
           exact absurd H (by simp)
         ·rw [if_neg c39] at H
          have c39b0 : decide (x5_3 < (l0_4.length : Int)) = false := decide_eq_false c39
          clear c39
          have H' := Aside0.mk H
          clear H
          have hcz64_0 : wr.cell? ⟨gb121, 0, none⟩ = some (.string a0_0) := (blk_cell BK121.out 0).trans rfl
          have hcz64_1 : wr.cell? ⟨gb121, 1, none⟩ = some (.string a0_1) := (blk_cell BK121.out 1).trans rfl
          have hcz64_2 : wr.cell? ⟨gb121, 2, none⟩ = some (.slice A0_2 l0_2.length c0_2) := (blk_cell BK121.out 2).trans rfl
          have hcz64_3 : wr.cell? ⟨gb121, 3, none⟩ = some (.string a0_3) := (blk_cell BK121.out 3).trans rfl
          have hcz64_4 : wr.cell? ⟨gb121, 4, none⟩ = some (.slice A0_4 l0_4.length c0_4) := (blk_cell BK121.out 4).trans rfl
          have hcz64_5 : wr.cell? ⟨gb121, 5, none⟩ = some (.slice A0_5 l0_5.length c0_5) := (blk_cell BK121.out 5).trans rfl
          have hcz64_6 : wr.cell? ⟨gb121, 6, none⟩ = some (.slice A0_6 l0_6.length c0_6) := (blk_cell BK121.out 6).trans rfl
          have hfz64_0 := blk_frozen BK121.out 0
          have hfz64_1 := blk_frozen BK121.out 1
          have hfz64_2 := blk_frozen BK121.out 2
          have hfz64_3 := blk_frozen BK121.out 3
          have hfz64_4 := blk_frozen BK121.out 4
          have hfz64_5 := blk_frozen BK121.out 5
          have hfz64_6 := blk_frozen BK121.out 6
          go_wp2
          go_loopg [6] k3 (fun kq v6 w' => ∃ (x6_4 : Int), v6 = .int .i64 x6_4 ∧ Aside0 (spec_l5Usual.l3 kq x6_4 a0_0 a0_1 l0_2 a0_3 l0_4 l0_5 l0_6 = some r) ∧ Aside0 (kq ≤ k3) ∧ Aside0 (w'.heap[gb121]? = some (.cells #[.string a0_0, .string a0_1, (.slice A0_2 l0_2.length c0_2), .string a0_3, (.slice A0_4 l0_4.length c0_4), (.slice A0_5 l0_5.length c0_5), (.slice A0_6 l0_6.length c0_6)] 48 (0, 0))) ∧ Aside0 (Below w.heap.size w w'))
          case atStart => exact ⟨(0), (by first | rfl | (simp; done) | (simp [*]; done)), H', ⟨Nat.le_refl _⟩, ⟨by (with_reducible repeat (first | refine blk_drewN ?_ _ | refine blk_drew ?_ | refine blk_alloc ?_ _)); exact BK121.out⟩, ⟨by repeat (first | (with_reducible first | exact HB.out | apply below_alloc | apply pw_below_drewN | apply below_drew1 | refine below_set ?_ GE121.out) | exact HB.out)⟩⟩
          case round =>
           clear H'
           try clear p1
           try clear q1
           try clear hx1
           try clear c2
           try clear p2
           try clear c3
           try clear c4
           try clear c5
           try clear p6
           try clear p13
           try clear q13
           try clear hx13
           try clear c21
           try clear c39
           try clear c39b0
           try clear c40
           try clear c42
           try clear c49
           try clear c57
           try clear p64
           try clear hcz60_0
           try clear hcz60_1
           try clear hcz60_2
           try clear hcz60_3
           try clear hcz60_4
           try clear hcz60_5
           try clear hcz60_6
           try clear hcz62_0
           try clear hcz62_1
           try clear hcz62_2
           try clear hcz62_3
           try clear hcz62_4
           try clear hcz62_5
           try clear hcz62_6
           try clear hcz64_0
           try clear hcz64_1
           try clear hcz64_2
           try clear hcz64_3
           try clear hcz64_4
           try clear hcz64_5
           try clear hcz64_6
           try clear hfz60_0
           try clear hfz60_1
           try clear hfz60_2
           try clear hfz60_3
           try clear hfz60_4
           try clear hfz60_5
           try clear hfz60_6
           try clear hfz62_0
           try clear hfz62_1
           try clear hfz62_2
           try clear hfz62_3
           try clear hfz62_4
           try clear hfz62_5
           try clear hfz62_6
           try clear hfz64_0
           try clear hfz64_1
           try clear hfz64_2
           try clear hfz64_3
           try clear hfz64_4
           try clear hfz64_5
           try clear hfz64_6
           try clear hx130_0
           try clear hx130_1
           try clear hx136_0
           try clear hx136_1
           try clear p130
           try clear p136
           try clear q130
           try clear q136
           obtain ⟨x6_4, rfl, HA, HK4, BK121, HB⟩ := hrel
           cases gk with
           | zero => exact absurd HA.out (by simp [spec_l5Usual.l3])
           | succ k4 =>
            have H := HA.out
            clear HA
            simp only [spec_l5Usual.l3] at H
            by_cases c65 : x6_4 < (l0_5.length : Int)
            ·rw [if_pos c65] at H
             have c65b0 : decide (x6_4 < (l0_5.length : Int)) = true := decide_eq_true c65
             clear c65
             by_cases c66 : 0 ≤ x6_4
             ·rw [if_pos c66] at H
              have c66b0 : decide (0 ≤ x6_4) = true := decide_eq_true c66
              clear c66
              replace H := Option.bind_eq_some_iff.mp H
              obtain ⟨t140, A670, H⟩ := H
              replace H : (if t140 = true then ((spec_NameOk.f k4 ((rd_T75 l0_5 x6_4).f1)).bind fun t141 => (if t141 = true then (if x6_4 > 0 then (if 0 ≤ (wrap64 (x6_4 - 1)) then (if (wrap64 (x6_4 - 1)) < (l0_5.length : Int) then ((spec_l5UsesLess.f ((rd_T75 l0_5 (wrap64 (x6_4 - 1))).f0) ((rd_T75 l0_5 (wrap64 (x6_4 - 1))).f1) ((rd_T75 l0_5 x6_4).f0) ((rd_T75 l0_5 x6_4).f1)).bind fun t143 => (if t143 = true then (spec_l5Usual.l3 k4 (wrap64 (x6_4 + 1)) a0_0 a0_1 l0_2 a0_3 l0_4 l0_5 l0_6) else (some false))) else (none)) else (none)) else (spec_l5Usual.l3 k4 (wrap64 (x6_4 + 1)) a0_0 a0_1 l0_2 a0_3 l0_4 l0_5 l0_6)) else (some false))) else (some false)) = some r := H
              have A67 := Aside0.mk A670
              clear A670
              by_cases c68 : t140 = true
              ·subst c68
               have H1 : ((spec_NameOk.f k4 ((rd_T75 l0_5 x6_4).f1)).bind fun t141 => (if t141 = true then (if x6_4 > 0 then (if 0 ≤ (wrap64 (x6_4 - 1)) then (if (wrap64 (x6_4 - 1)) < (l0_5.length : Int) then ((spec_l5UsesLess.f ((rd_T75 l0_5 (wrap64 (x6_4 - 1))).f0) ((rd_T75 l0_5 (wrap64 (x6_4 - 1))).f1) ((rd_T75 l0_5 x6_4).f0) ((rd_T75 l0_5 x6_4).f1)).bind fun t143 => (if t143 = true then (spec_l5Usual.l3 k4 (wrap64 (x6_4 + 1)) a0_0 a0_1 l0_2 a0_3 l0_4 l0_5 l0_6) else (some false))) else (none)) else (none)) else (spec_l5Usual.l3 k4 (wrap64 (x6_4 + 1)) a0_0 a0_1 l0_2 a0_3 l0_4 l0_5 l0_6)) else (some false))) = some r := by rw [if_pos rfl] at H; exact H
               clear H
               have H := H1
               clear H1
               replace H := Option.bind_eq_some_iff.mp H
               obtain ⟨t141, A690, H⟩ := H
               replace H : (if t141 = true then (if x6_4 > 0 then (if 0 ≤ (wrap64 (x6_4 - 1)) then (if (wrap64 (x6_4 - 1)) < (l0_5.length : Int) then ((spec_l5UsesLess.f ((rd_T75 l0_5 (wrap64 (x6_4 - 1))).f0) ((rd_T75 l0_5 (wrap64 (x6_4 - 1))).f1) ((rd_T75 l0_5 x6_4).f0) ((rd_T75 l0_5 x6_4).f1)).bind fun t143 => (if t143 = true then (spec_l5Usual.l3 k4 (wrap64 (x6_4 + 1)) a0_0 a0_1 l0_2 a0_3 l0_4 l0_5 l0_6) else (some false))) else (none)) else (none)) else (spec_l5Usual.l3 k4 (wrap64 (x6_4 + 1)) a0_0 a0_1 l0_2 a0_3 l0_4 l0_5 l0_6)) else (some false)) = some r := H
               have A69 := Aside0.mk A690
               clear A690
               by_cases c70 : t141 = true
               ·subst c70
                have H1 : (if x6_4 > 0 then (if 0 ≤ (wrap64 (x6_4 - 1)) then (if (wrap64 (x6_4 - 1)) < (l0_5.length : Int) then ((spec_l5UsesLess.f ((rd_T75 l0_5 (wrap64 (x6_4 - 1))).f0) ((rd_T75 l0_5 (wrap64 (x6_4 - 1))).f1) ((rd_T75 l0_5 x6_4).f0) ((rd_T75 l0_5 x6_4).f1)).bind fun t143 => (if t143 = true then (spec_l5Usual.l3 k4 (wrap64 (x6_4 + 1)) a0_0 a0_1 l0_2 a0_3 l0_4 l0_5 l0_6) else (some false))) else (none)) else (none)) else (spec_l5Usual.l3 k4 (wrap64 (x6_4 + 1)) a0_0 a0_1 l0_2 a0_3 l0_4 l0_5 l0_6)) = some r := by rw [if_pos rfl] at H; exact H
                clear H
                have H := H1
                clear H1
                by_cases c71 : x6_4 > 0
                ·rw [if_pos c71] at H
                 have c71b0 : decide (0 < x6_4) = true := decide_eq_true c71
                 clear c71
                 obtain ⟨ji72, hji72⟩ : ∃ j_ : Int, (wrap64 (x6_4 - 1)) = j_ := ⟨_, rfl⟩
                 replace H : (if 0 ≤ (ji72) then (if (ji72) < (l0_5.length : Int) then ((spec_l5UsesLess.f ((rd_T75 l0_5 (ji72)).f0) ((rd_T75 l0_5 (ji72)).f1) ((rd_T75 l0_5 x6_4).f0) ((rd_T75 l0_5 x6_4).f1)).bind fun t143 => (if t143 = true then (spec_l5Usual.l3 k4 (wrap64 (x6_4 + 1)) a0_0 a0_1 l0_2 a0_3 l0_4 l0_5 l0_6) else (some false))) else (none)) else (none)) = some r := by first | (rw [hji72] at H; exact H) | (simp only [hji72] at H ⊢; exact H)
                 (try rw [hji72] at A67)
                 (try rw [hji72] at A69)
                 have hji72w : (IntKind.i64.wrap (x6_4 - 1)) = ji72 := (i64_w _).trans hji72
                 by_cases c73 : 0 ≤ (ji72)
                 ·rw [if_pos c73] at H
                  have c73b0 : decide (0 ≤ (ji72)) = true := decide_eq_true c73
                  clear c73
                  by_cases c74 : (ji72) < (l0_5.length : Int)
                  ·rw [if_pos c74] at H
                   have c74b0 : decide ((ji72) < (l0_5.length : Int)) = true := decide_eq_true c74
                   clear c74
                   replace H := Option.bind_eq_some_iff.mp H
                   obtain ⟨t143, A750, H⟩ := H
                   replace H : (if t143 = true then (spec_l5Usual.l3 k4 (wrap64 (x6_4 + 1)) a0_0 a0_1 l0_2 a0_3 l0_4 l0_5 l0_6) else (some false)) = some r := H
                   have A75 := Aside0.mk A750
                   clear A750
                   by_cases c76 : t143 = true
                   ·subst c76
                    have H1 : (spec_l5Usual.l3 k4 (wrap64 (x6_4 + 1)) a0_0 a0_1 l0_2 a0_3 l0_4 l0_5 l0_6) = some r := by rw [if_pos rfl] at H; exact H
                    clear H
                    have H := H1
                    clear H1
                    have H' := Aside0.mk H
                    clear H
                    have hcz77_0 : wr.cell? ⟨gb121, 0, none⟩ = some (.string a0_0) := (blk_cell BK121.out 0).trans rfl
                    have hcz77_1 : wr.cell? ⟨gb121, 1, none⟩ = some (.string a0_1) := (blk_cell BK121.out 1).trans rfl
                    have hcz77_2 : wr.cell? ⟨gb121, 2, none⟩ = some (.slice A0_2 l0_2.length c0_2) := (blk_cell BK121.out 2).trans rfl
                    have hcz77_3 : wr.cell? ⟨gb121, 3, none⟩ = some (.string a0_3) := (blk_cell BK121.out 3).trans rfl
                    have hcz77_4 : wr.cell? ⟨gb121, 4, none⟩ = some (.slice A0_4 l0_4.length c0_4) := (blk_cell BK121.out 4).trans rfl
                    have hcz77_5 : wr.cell? ⟨gb121, 5, none⟩ = some (.slice A0_5 l0_5.length c0_5) := (blk_cell BK121.out 5).trans rfl
                    have hcz77_6 : wr.cell? ⟨gb121, 6, none⟩ = some (.slice A0_6 l0_6.length c0_6) := (blk_cell BK121.out 6).trans rfl
                    have hfz77_0 := blk_frozen BK121.out 0
                    have hfz77_1 := blk_frozen BK121.out 1
                    have hfz77_2 := blk_frozen BK121.out 2
                    have hfz77_3 := blk_frozen BK121.out 3
                    have hfz77_4 := blk_frozen BK121.out 4
                    have hfz77_5 := blk_frozen BK121.out 5
                    have hfz77_6 := blk_frozen BK121.out 6
                    have p138 : 0 ≤ (x6_4 : Int) := of_decide_eq_true (by first | (with_reducible assumption) | assumption)
                    have q138 : x6_4 < (l0_5.length : Int) := of_decide_eq_true (by first | (with_reducible assumption) | assumption)
                    obtain ⟨ad138, e138, hx138_0, hx138_1⟩ := at_T75 HR0_5.out x6_4 p138 q138
                    cases e138
                    replace hx138_0 := (HB.out.cell (World.block_lt_of_cell? w _ hx138_0)).trans hx138_0
                    replace hx138_1 := (HB.out.cell (World.block_lt_of_cell? w _ hx138_1)).trans hx138_1
                    replace p138 := eq_true p138
                    replace q138 := eq_true q138
                    try go_wp2_with (first | ((with_reducible refine gate_dst (N := 7) rfl ?_); refine box_event ?hg (N := 7) ?hd (cs := #[.string (⟨#[]⟩ : ByteArray), .string (⟨#[]⟩ : ByteArray)]) (t := 75) ?hr ?_; (case hd => rfl); (case hg => rfl); (case hr => first | (go_simp; done) | (go_simp; rfl)); intro gb139 hg w78 hbox hb; have n0_ := Aside0.mk (blk_below (g := gb121) (qK BK121.out) hb); have n1_ := Aside0.mk (below_step (qG GE121.out) hb); have n2_ := Aside0.mk (hbox); have n3_ := Aside0.mk ((by rw [hg]; exact (below_size (qG GE121.out)) : w.heap.size ≤ gb139)); have n4_ := Aside0.mk ((by rw [hg]; exact (below_size (qG GE121.out)) : w.heap.size ≤ gb139)); have n5_ := Aside0.mk ((by rw [hg]; exact Nat.ne_of_lt (blk_lt (g := gb121) (qK BK121.out)) : gb121 ≠ gb139)); have n6_ := Aside0.mk ((by rw [hg]; exact Nat.ne_of_gt (blk_lt (g := gb121) (qK BK121.out)) : gb139 ≠ gb121)); clear BK121; clear HB; have BK121 := n0_; have HB := n1_; have BK139 := n2_; have GW139 := n3_; have GE139 := n4_; have NB121_139 := n5_; have NB139_121 := n6_; clear n0_ n1_ n2_ n3_ n4_ n5_ n6_; clear hb hbox hg; have hnb79 := NB139_121.out; have hnc79 := NB121_139.out; have hcz80_0 : w78.cell? ⟨gb139, 0, none⟩ = some (.string (⟨#[]⟩ : ByteArray)) := (blk_cell BK139.out 0).trans rfl; have hcz80_1 : w78.cell? ⟨gb139, 1, none⟩ = some (.string (⟨#[]⟩ : ByteArray)) := (blk_cell BK139.out 1).trans rfl; have hfz80_0 := blk_frozen BK139.out 0; have hfz80_1 := blk_frozen BK139.out 1))
                    have n0_ : Aside0 (((w78.setCell ⟨gb139, 0, none⟩ (.string ((rd_T75 l0_5 x6_4).f0))).setCell ⟨gb139, 1, none⟩ (.string ((rd_T75 l0_5 x6_4).f1))).heap[gb121]? = some (.cells #[.string a0_0, .string a0_1, .slice A0_2 l0_2.length c0_2, .string a0_3, .slice A0_4 l0_4.length c0_4, .slice (some ad138) l0_5.length c0_5, .slice A0_6 l0_6.length c0_6] 48 (0, 0))) := ⟨by (with_reducible repeat (first | refine blk_drewN ?_ _ | refine blk_drew ?_ | refine blk_alloc ?_ _)); refine blk_far ?_ NB121_139.out _; (with_reducible repeat (first | refine blk_drewN ?_ _ | refine blk_drew ?_ | refine blk_alloc ?_ _)); refine blk_far ?_ NB121_139.out _; (with_reducible repeat (first | refine blk_drewN ?_ _ | refine blk_drew ?_ | refine blk_alloc ?_ _)); exact BK121.out⟩
                    have n1_ : Aside0 (((w78.setCell ⟨gb139, 0, none⟩ (.string ((rd_T75 l0_5 x6_4).f0))).setCell ⟨gb139, 1, none⟩ (.string ((rd_T75 l0_5 x6_4).f1))).heap[gb139]? = some (.cells #[.string ((rd_T75 l0_5 x6_4).f0), .string ((rd_T75 l0_5 x6_4).f1)] 75 (0, 0))) := ⟨by (with_reducible repeat (first | refine blk_drewN ?_ _ | refine blk_drew ?_ | refine blk_alloc ?_ _)); refine blk_put (cs := #[.string ((rd_T75 l0_5 x6_4).f0), .string (⟨#[]⟩ : ByteArray)]) ?_ 1 _ rfl; (with_reducible repeat (first | refine blk_drewN ?_ _ | refine blk_drew ?_ | refine blk_alloc ?_ _)); refine blk_put (cs := #[.string (⟨#[]⟩ : ByteArray), .string (⟨#[]⟩ : ByteArray)]) ?_ 0 _ rfl; (with_reducible repeat (first | refine blk_drewN ?_ _ | refine blk_drew ?_ | refine blk_alloc ?_ _)); exact BK139.out⟩
                    have n2_ : Aside0 (Below w.heap.size w ((w78.setCell ⟨gb139, 0, none⟩ (.string ((rd_T75 l0_5 x6_4).f0))).setCell ⟨gb139, 1, none⟩ (.string ((rd_T75 l0_5 x6_4).f1)))) := ⟨by repeat (first | (with_reducible first | exact HB.out | apply below_alloc | apply pw_below_drewN | apply below_drew1 | refine below_set ?_ GE121.out | refine below_set ?_ GE139.out) | exact HB.out)⟩
                    (try clear BK121)
                    (try clear BK139)
                    (try clear HB)
                    generalize ((w78.setCell ⟨gb139, 0, none⟩ (.string ((rd_T75 l0_5 x6_4).f0))).setCell ⟨gb139, 1, none⟩ (.string ((rd_T75 l0_5 x6_4).f1))) = w81 at n0_ n1_ n2_ ⊢
                    have BK121 := n0_
                    have BK139 := n1_
                    have HB := n2_
                    clear n0_ n1_ n2_
                    have n0_ := Aside0.mk (blk_drew BK121.out)
                    have n1_ := Aside0.mk (blk_drew BK139.out)
                    have n2_ := Aside0.mk (below_drew1 HB.out)
                    clear BK121
                    clear BK139
                    clear HB
                    have BK121 := n0_
                    have BK139 := n1_
                    have HB := n2_
                    clear n0_ n1_ n2_
                    have p142 : 0 ≤ ((ji72) : Int) := of_decide_eq_true (by first | (with_reducible assumption) | assumption)
                    have q142 : (ji72) < (l0_5.length : Int) := of_decide_eq_true (by first | (with_reducible assumption) | assumption)
                    obtain ⟨ad142, e142, hx142_0, hx142_1⟩ := at_T75 HR0_5.out (ji72) p142 q142
                    have hw142_1 := hx142_1
                    have hw142_0 := hx142_0
                    obtain rfl : ad138 = ad142 := (by injection e142)
                    replace hx142_0 := (HB.out.cell (World.block_lt_of_cell? w _ hx142_0)).trans hx142_0
                    replace hx142_1 := (HB.out.cell (World.block_lt_of_cell? w _ hx142_1)).trans hx142_1
                    replace p142 := eq_true p142
                    replace q142 := eq_true q142
                    refine start_ (n := 25) (S := fun w' => w'.cell? ⟨gb139, 0, none⟩ = some (.string ((rd_T75 l0_5 x6_4).f0)) ∧ w'.cell? ⟨gb139, 1, none⟩ = some (.string ((rd_T75 l0_5 x6_4).f1)) ∧ w'.cell? ⟨gb121, 0, none⟩ = some (.string a0_0) ∧ w'.cell? ⟨gb121, 1, none⟩ = some (.string a0_1) ∧ w'.cell? ⟨gb121, 2, none⟩ = some (.slice A0_2 l0_2.length c0_2) ∧ w'.cell? ⟨gb121, 3, none⟩ = some (.string a0_3) ∧ w'.cell? ⟨gb121, 4, none⟩ = some (.slice A0_4 l0_4.length c0_4) ∧ w'.cell? ⟨gb121, 5, none⟩ = some (.slice (some ad138) l0_5.length c0_5) ∧ w'.cell? ⟨gb121, 6, none⟩ = some (.slice A0_6 l0_6.length c0_6) ∧ w'.cell? (ad138.add (((ji72)).toNat * 2)) = some (.string ((rd_T75 l0_5 (ji72)).f0)) ∧ w'.cell? ⟨(ad138.add (((ji72)).toNat * 2)).block, (ad138.add (((ji72)).toNat * 2)).off + 1, none⟩ = some (.string ((rd_T75 l0_5 (ji72)).f1))) (ds := []) (tf 25 0) (by kernel_rfl) rfl rfl ⟨(blk_cell BK139.out 0).trans rfl, (blk_cell BK139.out 1).trans rfl, (blk_cell BK121.out 0).trans rfl, (blk_cell BK121.out 1).trans rfl, (blk_cell BK121.out 2).trans rfl, (blk_cell BK121.out 3).trans rfl, (blk_cell BK121.out 4).trans rfl, (blk_cell BK121.out 5).trans rfl, (blk_cell BK121.out 6).trans rfl, ((HB.out.cell (World.block_lt_of_cell? w _ hw142_0)).trans hw142_0), ((HB.out.cell (World.block_lt_of_cell? w _ hw142_1)).trans hw142_1)⟩ (fun hHeld => ?_); refine with_tabW spec_l5Usual.tab20 spec_l5Usual.bits20 (fun HT_ HW_ => ?_)
                    generalize w81.drew = w82 at BK121 BK139 HB hx142_0 hx142_1 hHeld ⊢
                    refine qA 0 129 (tf 25 1) ?_
                    refine qT 1 130 (tf 25 3) ?_
                    refine one_ (i := 2) (N := some 131) (tf 25 7) rfl rfl (one_of HT_.out (by kernel_rfl)) (by decide) (fun K hK => ?_)
                    refine goes_ Try.func8 (by kernel_rfl) rfl #[.string ((rd_T75 l0_5 x6_4).f0)] (by rfl) rfl rfl (by (try simp only [List.map_toArray, List.map_cons, List.map_nil]); first | done | rfl | (simp only [List.length_drop, List.length_take]; rfl)) ?_
                    with_reducible refine (spec_AddressOk.calls k4 ((rd_T75 l0_5 x6_4).f0) true _ A67.out).mono ?_
                    rintro e w' ⟨rfl, ⟨nd, rfl⟩⟩
                    refine ⟨_, rfl, ?_⟩
                    refine hK.out _ _ ⟨(blk_cell BK139.out 0).trans rfl, (blk_cell BK139.out 1).trans rfl, (blk_cell BK121.out 0).trans rfl, (blk_cell BK121.out 1).trans rfl, (blk_cell BK121.out 2).trans rfl, (blk_cell BK121.out 3).trans rfl, (blk_cell BK121.out 4).trans rfl, (blk_cell BK121.out 5).trans rfl, (blk_cell BK121.out 6).trans rfl, ((HB.out.cell (World.block_lt_of_cell? w _ hw142_0)).trans hw142_0), ((HB.out.cell (World.block_lt_of_cell? w _ hw142_1)).trans hw142_1)⟩ (fun hHeld => ?_)
                    clear hK K
                    refine norm_ (a' := ?_) ?_ ?_
                    rotate_left
                    ·show Act.put _ (some 131) _ = _
                     simp only [Act.put, sT, s0, sS, i64_w, i32_w]
                     rfl
                    refine qA 3 132 (tf 25 15) ?_
                    refine qA 4 133 (tf 25 31) ?_
                    refine qA 5 134 (tf 25 63) ?_
                    refine qT 6 135 (tf 25 127) ?_
                    refine one_ (i := 7) (N := some 136) (tf 25 255) rfl rfl (one_of HT_.out (by kernel_rfl)) (by decide) (fun K hK => ?_)
                    refine goes_ Try.func21 (by kernel_rfl) rfl #[.string ((rd_T75 l0_5 x6_4).f1)] (by rfl) rfl rfl (by (try simp only [List.map_toArray, List.map_cons, List.map_nil]); first | done | rfl | (simp only [List.length_drop, List.length_take]; rfl)) ?_
                    with_reducible refine (spec_NameOk.calls k4 ((rd_T75 l0_5 x6_4).f1) true _ A69.out).mono ?_
                    rintro e w' ⟨rfl, ⟨nd, rfl⟩⟩
                    refine ⟨_, rfl, ?_⟩
                    refine hK.out _ _ ⟨(blk_cell BK139.out 0).trans rfl, (blk_cell BK139.out 1).trans rfl, (blk_cell BK121.out 0).trans rfl, (blk_cell BK121.out 1).trans rfl, (blk_cell BK121.out 2).trans rfl, (blk_cell BK121.out 3).trans rfl, (blk_cell BK121.out 4).trans rfl, (blk_cell BK121.out 5).trans rfl, (blk_cell BK121.out 6).trans rfl, ((HB.out.cell (World.block_lt_of_cell? w _ hw142_0)).trans hw142_0), ((HB.out.cell (World.block_lt_of_cell? w _ hw142_1)).trans hw142_1)⟩ (fun hHeld => ?_)
                    clear hK K
                    refine norm_ (a' := ?_) ?_ ?_
                    rotate_left
                    ·show Act.put _ (some 136) _ = _
                     simp only [Act.put, sT, s0, sS, i64_w, i32_w]
                     rfl
                    refine qA 8 137 (tf 25 511) ?_
                    refine qA 9 138 (tf 25 1023) ?_
                    refine qA 10 139 (tf 25 2047) ?_
                    refine qA 11 140 (tf 25 4095) ?_
                    refine qA 12 141 (tf 25 8191) ?_
                    refine qA 13 142 (tf 25 16383) ?_
                    refine qA 14 143 (tf 25 32767) ?_
                    refine qA 16 145 (tf 25 98303) ?_
                    refine qA 17 146 (tf 25 229375) ?_
                    refine qT 15 144 (tf 25 262143) ?_
                    refine qA 18 147 (tf 25 524287) ?_
                    refine qT 19 148 (tf 25 1048575) ?_
                    refine qT 20 149 (tf 25 2097151) ?_
                    refine one_ (i := 21) (N := some 150) (tf 25 4194303) rfl rfl (one_of HT_.out (by kernel_rfl)) (by decide) (fun K hK => ?_)
                    refine goes_ Try.func69 (by kernel_rfl) rfl #[.agg #[.string ((rd_T75 l0_5 (ji72)).f0), .string ((rd_T75 l0_5 (ji72)).f1)], .agg #[.string ((rd_T75 l0_5 x6_4).f0), .string ((rd_T75 l0_5 x6_4).f1)]] (by rfl) rfl rfl (by (try simp only [List.map_toArray, List.map_cons, List.map_nil]); first | done | (simp only [hji72]; rfl) | rfl | (simp only [List.length_drop, List.length_take]; rfl)) ?_
                    with_reducible refine (spec_l5UsesLess.calls ((rd_T75 l0_5 (ji72)).f0) ((rd_T75 l0_5 (ji72)).f1) ((rd_T75 l0_5 x6_4).f0) ((rd_T75 l0_5 x6_4).f1) true _ A75.out).mono ?_
                    rintro e w83 ⟨rfl, hb⟩
                    refine ⟨_, rfl, ?_⟩
                    have n0_ := Aside0.mk (blk_below (g := gb121) (qK BK121.out) hb)
                    have n1_ := Aside0.mk (blk_below (g := gb139) (qK BK139.out) hb)
                    have n2_ := Aside0.mk (below_step (qH GE121.out GE139.out) hb)
                    clear BK121
                    clear BK139
                    clear HB
                    have BK121 := n0_
                    have BK139 := n1_
                    have HB := n2_
                    clear n0_ n1_ n2_
                    (try clear hb)
                    (try clear hb2)
                    (try clear hk)
                    (try clear hi)
                    refine hK.out _ _ ⟨(blk_cell BK139.out 0).trans rfl, (blk_cell BK139.out 1).trans rfl, (blk_cell BK121.out 0).trans rfl, (blk_cell BK121.out 1).trans rfl, (blk_cell BK121.out 2).trans rfl, (blk_cell BK121.out 3).trans rfl, (blk_cell BK121.out 4).trans rfl, (blk_cell BK121.out 5).trans rfl, (blk_cell BK121.out 6).trans rfl, ((HB.out.cell (World.block_lt_of_cell? w _ hw142_0)).trans hw142_0), ((HB.out.cell (World.block_lt_of_cell? w _ hw142_1)).trans hw142_1)⟩ (fun hHeld => ?_)
                    clear hK K
                    refine norm_ (a' := ?_) ?_ ?_
                    rotate_left
                    ·show Act.put _ (some 150) _ = _
                     simp only [Act.put, sT, s0, sS, i64_w, i32_w]
                     rfl
                    refine qA 22 151 (tf 25 8388607) ?_
                    refine qA 23 152 (tf 25 16777215) ?_
                    refine qA 24 153 (tf 25 33554431) ?_
                    refine done_ (done_of HT_.out (by kernel_rfl)) ?_
                    try go_wp2
                    go_roundg k4
                    case measure => have := HK1.out; have := HK2.out; have := HK3.out; have := HK4.out; omega
                    case rel => exact ⟨(wrap64 (x6_4 + 1)), (by first | rfl | (simp; done) | (simp [*]; done)), H', ⟨by have := HK1.out; have := HK2.out; have := HK3.out; have := HK4.out; omega⟩, ⟨by (with_reducible repeat (first | refine blk_drewN ?_ _ | refine blk_drew ?_ | refine blk_alloc ?_ _)); exact BK121.out⟩, ⟨by repeat (first | (with_reducible first | exact HB.out | apply below_alloc | apply pw_below_drewN | apply below_drew1 | refine below_set ?_ GE121.out | refine below_set ?_ GE139.out) | exact HB.out)⟩⟩
                   ·replace c76 := Bool.eq_false_iff.mpr c76
                    subst c76
                    have H1 : (some false) = some r := by rw [if_neg (show ¬ (false = true) by decide)] at H; exact H
                    clear H
                    have H := H1
                    clear H1
                    obtain rfl := Option.some.inj H
                    have hcz84_0 : wr.cell? ⟨gb121, 0, none⟩ = some (.string a0_0) := (blk_cell BK121.out 0).trans rfl
                    have hcz84_1 : wr.cell? ⟨gb121, 1, none⟩ = some (.string a0_1) := (blk_cell BK121.out 1).trans rfl
                    have hcz84_2 : wr.cell? ⟨gb121, 2, none⟩ = some (.slice A0_2 l0_2.length c0_2) := (blk_cell BK121.out 2).trans rfl
                    have hcz84_3 : wr.cell? ⟨gb121, 3, none⟩ = some (.string a0_3) := (blk_cell BK121.out 3).trans rfl
                    have hcz84_4 : wr.cell? ⟨gb121, 4, none⟩ = some (.slice A0_4 l0_4.length c0_4) := (blk_cell BK121.out 4).trans rfl
                    have hcz84_5 : wr.cell? ⟨gb121, 5, none⟩ = some (.slice A0_5 l0_5.length c0_5) := (blk_cell BK121.out 5).trans rfl
                    have hcz84_6 : wr.cell? ⟨gb121, 6, none⟩ = some (.slice A0_6 l0_6.length c0_6) := (blk_cell BK121.out 6).trans rfl
                    have hfz84_0 := blk_frozen BK121.out 0
                    have hfz84_1 := blk_frozen BK121.out 1
                    have hfz84_2 := blk_frozen BK121.out 2
                    have hfz84_3 := blk_frozen BK121.out 3
                    have hfz84_4 := blk_frozen BK121.out 4
                    have hfz84_5 := blk_frozen BK121.out 5
                    have hfz84_6 := blk_frozen BK121.out 6
                    have p138 : 0 ≤ (x6_4 : Int) := of_decide_eq_true (by first | (with_reducible assumption) | assumption)
                    have q138 : x6_4 < (l0_5.length : Int) := of_decide_eq_true (by first | (with_reducible assumption) | assumption)
                    obtain ⟨ad138, e138, hx138_0, hx138_1⟩ := at_T75 HR0_5.out x6_4 p138 q138
                    cases e138
                    replace hx138_0 := (HB.out.cell (World.block_lt_of_cell? w _ hx138_0)).trans hx138_0
                    replace hx138_1 := (HB.out.cell (World.block_lt_of_cell? w _ hx138_1)).trans hx138_1
                    replace p138 := eq_true p138
                    replace q138 := eq_true q138
                    try go_wp2_with (first | ((with_reducible refine gate_dst (N := 7) rfl ?_); refine box_event ?hg (N := 7) ?hd (cs := #[.string (⟨#[]⟩ : ByteArray), .string (⟨#[]⟩ : ByteArray)]) (t := 75) ?hr ?_; (case hd => rfl); (case hg => rfl); (case hr => first | (go_simp; done) | (go_simp; rfl)); intro gb139 hg w85 hbox hb; have n0_ := Aside0.mk (blk_below (g := gb121) (qK BK121.out) hb); have n1_ := Aside0.mk (below_step (qG GE121.out) hb); have n2_ := Aside0.mk (hbox); have n3_ := Aside0.mk ((by rw [hg]; exact (below_size (qG GE121.out)) : w.heap.size ≤ gb139)); have n4_ := Aside0.mk ((by rw [hg]; exact (below_size (qG GE121.out)) : w.heap.size ≤ gb139)); have n5_ := Aside0.mk ((by rw [hg]; exact Nat.ne_of_lt (blk_lt (g := gb121) (qK BK121.out)) : gb121 ≠ gb139)); have n6_ := Aside0.mk ((by rw [hg]; exact Nat.ne_of_gt (blk_lt (g := gb121) (qK BK121.out)) : gb139 ≠ gb121)); clear BK121; clear HB; have BK121 := n0_; have HB := n1_; have BK139 := n2_; have GW139 := n3_; have GE139 := n4_; have NB121_139 := n5_; have NB139_121 := n6_; clear n0_ n1_ n2_ n3_ n4_ n5_ n6_; clear hb hbox hg; have hnb86 := NB139_121.out; have hnc86 := NB121_139.out; have hcz87_0 : w85.cell? ⟨gb139, 0, none⟩ = some (.string (⟨#[]⟩ : ByteArray)) := (blk_cell BK139.out 0).trans rfl; have hcz87_1 : w85.cell? ⟨gb139, 1, none⟩ = some (.string (⟨#[]⟩ : ByteArray)) := (blk_cell BK139.out 1).trans rfl; have hfz87_0 := blk_frozen BK139.out 0; have hfz87_1 := blk_frozen BK139.out 1))
                    have n0_ : Aside0 (((w85.setCell ⟨gb139, 0, none⟩ (.string ((rd_T75 l0_5 x6_4).f0))).setCell ⟨gb139, 1, none⟩ (.string ((rd_T75 l0_5 x6_4).f1))).heap[gb121]? = some (.cells #[.string a0_0, .string a0_1, .slice A0_2 l0_2.length c0_2, .string a0_3, .slice A0_4 l0_4.length c0_4, .slice (some ad138) l0_5.length c0_5, .slice A0_6 l0_6.length c0_6] 48 (0, 0))) := ⟨by (with_reducible repeat (first | refine blk_drewN ?_ _ | refine blk_drew ?_ | refine blk_alloc ?_ _)); refine blk_far ?_ NB121_139.out _; (with_reducible repeat (first | refine blk_drewN ?_ _ | refine blk_drew ?_ | refine blk_alloc ?_ _)); refine blk_far ?_ NB121_139.out _; (with_reducible repeat (first | refine blk_drewN ?_ _ | refine blk_drew ?_ | refine blk_alloc ?_ _)); exact BK121.out⟩
                    have n1_ : Aside0 (((w85.setCell ⟨gb139, 0, none⟩ (.string ((rd_T75 l0_5 x6_4).f0))).setCell ⟨gb139, 1, none⟩ (.string ((rd_T75 l0_5 x6_4).f1))).heap[gb139]? = some (.cells #[.string ((rd_T75 l0_5 x6_4).f0), .string ((rd_T75 l0_5 x6_4).f1)] 75 (0, 0))) := ⟨by (with_reducible repeat (first | refine blk_drewN ?_ _ | refine blk_drew ?_ | refine blk_alloc ?_ _)); refine blk_put (cs := #[.string ((rd_T75 l0_5 x6_4).f0), .string (⟨#[]⟩ : ByteArray)]) ?_ 1 _ rfl; (with_reducible repeat (first | refine blk_drewN ?_ _ | refine blk_drew ?_ | refine blk_alloc ?_ _)); refine blk_put (cs := #[.string (⟨#[]⟩ : ByteArray), .string (⟨#[]⟩ : ByteArray)]) ?_ 0 _ rfl; (with_reducible repeat (first | refine blk_drewN ?_ _ | refine blk_drew ?_ | refine blk_alloc ?_ _)); exact BK139.out⟩
                    have n2_ : Aside0 (Below w.heap.size w ((w85.setCell ⟨gb139, 0, none⟩ (.string ((rd_T75 l0_5 x6_4).f0))).setCell ⟨gb139, 1, none⟩ (.string ((rd_T75 l0_5 x6_4).f1)))) := ⟨by repeat (first | (with_reducible first | exact HB.out | apply below_alloc | apply pw_below_drewN | apply below_drew1 | refine below_set ?_ GE121.out | refine below_set ?_ GE139.out) | exact HB.out)⟩
                    (try clear BK121)
                    (try clear BK139)
                    (try clear HB)
                    generalize ((w85.setCell ⟨gb139, 0, none⟩ (.string ((rd_T75 l0_5 x6_4).f0))).setCell ⟨gb139, 1, none⟩ (.string ((rd_T75 l0_5 x6_4).f1))) = w88 at n0_ n1_ n2_ ⊢
                    have BK121 := n0_
                    have BK139 := n1_
                    have HB := n2_
                    clear n0_ n1_ n2_
                    have n0_ := Aside0.mk (blk_drew BK121.out)
                    have n1_ := Aside0.mk (blk_drew BK139.out)
                    have n2_ := Aside0.mk (below_drew1 HB.out)
                    clear BK121
                    clear BK139
                    clear HB
                    have BK121 := n0_
                    have BK139 := n1_
                    have HB := n2_
                    clear n0_ n1_ n2_
                    have p142 : 0 ≤ ((ji72) : Int) := of_decide_eq_true (by first | (with_reducible assumption) | assumption)
                    have q142 : (ji72) < (l0_5.length : Int) := of_decide_eq_true (by first | (with_reducible assumption) | assumption)
                    obtain ⟨ad142, e142, hx142_0, hx142_1⟩ := at_T75 HR0_5.out (ji72) p142 q142
                    have hw142_1 := hx142_1
                    have hw142_0 := hx142_0
                    obtain rfl : ad138 = ad142 := (by injection e142)
                    replace hx142_0 := (HB.out.cell (World.block_lt_of_cell? w _ hx142_0)).trans hx142_0
                    replace hx142_1 := (HB.out.cell (World.block_lt_of_cell? w _ hx142_1)).trans hx142_1
                    replace p142 := eq_true p142
                    replace q142 := eq_true q142
                    refine start_ (n := 25) (S := fun w' => w'.cell? ⟨gb139, 0, none⟩ = some (.string ((rd_T75 l0_5 x6_4).f0)) ∧ w'.cell? ⟨gb139, 1, none⟩ = some (.string ((rd_T75 l0_5 x6_4).f1)) ∧ w'.cell? ⟨gb121, 0, none⟩ = some (.string a0_0) ∧ w'.cell? ⟨gb121, 1, none⟩ = some (.string a0_1) ∧ w'.cell? ⟨gb121, 2, none⟩ = some (.slice A0_2 l0_2.length c0_2) ∧ w'.cell? ⟨gb121, 3, none⟩ = some (.string a0_3) ∧ w'.cell? ⟨gb121, 4, none⟩ = some (.slice A0_4 l0_4.length c0_4) ∧ w'.cell? ⟨gb121, 5, none⟩ = some (.slice (some ad138) l0_5.length c0_5) ∧ w'.cell? ⟨gb121, 6, none⟩ = some (.slice A0_6 l0_6.length c0_6) ∧ w'.cell? (ad138.add (((ji72)).toNat * 2)) = some (.string ((rd_T75 l0_5 (ji72)).f0)) ∧ w'.cell? ⟨(ad138.add (((ji72)).toNat * 2)).block, (ad138.add (((ji72)).toNat * 2)).off + 1, none⟩ = some (.string ((rd_T75 l0_5 (ji72)).f1))) (ds := []) (tf 25 0) (by kernel_rfl) rfl rfl ⟨(blk_cell BK139.out 0).trans rfl, (blk_cell BK139.out 1).trans rfl, (blk_cell BK121.out 0).trans rfl, (blk_cell BK121.out 1).trans rfl, (blk_cell BK121.out 2).trans rfl, (blk_cell BK121.out 3).trans rfl, (blk_cell BK121.out 4).trans rfl, (blk_cell BK121.out 5).trans rfl, (blk_cell BK121.out 6).trans rfl, ((HB.out.cell (World.block_lt_of_cell? w _ hw142_0)).trans hw142_0), ((HB.out.cell (World.block_lt_of_cell? w _ hw142_1)).trans hw142_1)⟩ (fun hHeld => ?_); refine with_tabW spec_l5Usual.tab20 spec_l5Usual.bits20 (fun HT_ HW_ => ?_)
                    generalize w88.drew = w89 at BK121 BK139 HB hx142_0 hx142_1 hHeld ⊢
                    refine qA 0 129 (tf 25 1) ?_
                    refine qT 1 130 (tf 25 3) ?_
                    refine one_ (i := 2) (N := some 131) (tf 25 7) rfl rfl (one_of HT_.out (by kernel_rfl)) (by decide) (fun K hK => ?_)
                    refine goes_ Try.func8 (by kernel_rfl) rfl #[.string ((rd_T75 l0_5 x6_4).f0)] (by rfl) rfl rfl (by (try simp only [List.map_toArray, List.map_cons, List.map_nil]); first | done | rfl | (simp only [List.length_drop, List.length_take]; rfl)) ?_
                    with_reducible refine (spec_AddressOk.calls k4 ((rd_T75 l0_5 x6_4).f0) true _ A67.out).mono ?_
                    rintro e w' ⟨rfl, ⟨nd, rfl⟩⟩
                    refine ⟨_, rfl, ?_⟩
                    refine hK.out _ _ ⟨(blk_cell BK139.out 0).trans rfl, (blk_cell BK139.out 1).trans rfl, (blk_cell BK121.out 0).trans rfl, (blk_cell BK121.out 1).trans rfl, (blk_cell BK121.out 2).trans rfl, (blk_cell BK121.out 3).trans rfl, (blk_cell BK121.out 4).trans rfl, (blk_cell BK121.out 5).trans rfl, (blk_cell BK121.out 6).trans rfl, ((HB.out.cell (World.block_lt_of_cell? w _ hw142_0)).trans hw142_0), ((HB.out.cell (World.block_lt_of_cell? w _ hw142_1)).trans hw142_1)⟩ (fun hHeld => ?_)
                    clear hK K
                    refine norm_ (a' := ?_) ?_ ?_
                    rotate_left
                    ·show Act.put _ (some 131) _ = _
                     simp only [Act.put, sT, s0, sS, i64_w, i32_w]
                     rfl
                    refine qA 3 132 (tf 25 15) ?_
                    refine qA 4 133 (tf 25 31) ?_
                    refine qA 5 134 (tf 25 63) ?_
                    refine qT 6 135 (tf 25 127) ?_
                    refine one_ (i := 7) (N := some 136) (tf 25 255) rfl rfl (one_of HT_.out (by kernel_rfl)) (by decide) (fun K hK => ?_)
                    refine goes_ Try.func21 (by kernel_rfl) rfl #[.string ((rd_T75 l0_5 x6_4).f1)] (by rfl) rfl rfl (by (try simp only [List.map_toArray, List.map_cons, List.map_nil]); first | done | rfl | (simp only [List.length_drop, List.length_take]; rfl)) ?_
                    with_reducible refine (spec_NameOk.calls k4 ((rd_T75 l0_5 x6_4).f1) true _ A69.out).mono ?_
                    rintro e w' ⟨rfl, ⟨nd, rfl⟩⟩
                    refine ⟨_, rfl, ?_⟩
                    refine hK.out _ _ ⟨(blk_cell BK139.out 0).trans rfl, (blk_cell BK139.out 1).trans rfl, (blk_cell BK121.out 0).trans rfl, (blk_cell BK121.out 1).trans rfl, (blk_cell BK121.out 2).trans rfl, (blk_cell BK121.out 3).trans rfl, (blk_cell BK121.out 4).trans rfl, (blk_cell BK121.out 5).trans rfl, (blk_cell BK121.out 6).trans rfl, ((HB.out.cell (World.block_lt_of_cell? w _ hw142_0)).trans hw142_0), ((HB.out.cell (World.block_lt_of_cell? w _ hw142_1)).trans hw142_1)⟩ (fun hHeld => ?_)
                    clear hK K
                    refine norm_ (a' := ?_) ?_ ?_
                    rotate_left
                    ·show Act.put _ (some 136) _ = _
                     simp only [Act.put, sT, s0, sS, i64_w, i32_w]
                     rfl
                    refine qA 8 137 (tf 25 511) ?_
                    refine qA 9 138 (tf 25 1023) ?_
                    refine qA 10 139 (tf 25 2047) ?_
                    refine qA 11 140 (tf 25 4095) ?_
                    refine qA 12 141 (tf 25 8191) ?_
                    refine qA 13 142 (tf 25 16383) ?_
                    refine qA 14 143 (tf 25 32767) ?_
                    refine qA 16 145 (tf 25 98303) ?_
                    refine qA 17 146 (tf 25 229375) ?_
                    refine qT 15 144 (tf 25 262143) ?_
                    refine qA 18 147 (tf 25 524287) ?_
                    refine qT 19 148 (tf 25 1048575) ?_
                    refine qT 20 149 (tf 25 2097151) ?_
                    refine one_ (i := 21) (N := some 150) (tf 25 4194303) rfl rfl (one_of HT_.out (by kernel_rfl)) (by decide) (fun K hK => ?_)
                    refine goes_ Try.func69 (by kernel_rfl) rfl #[.agg #[.string ((rd_T75 l0_5 (ji72)).f0), .string ((rd_T75 l0_5 (ji72)).f1)], .agg #[.string ((rd_T75 l0_5 x6_4).f0), .string ((rd_T75 l0_5 x6_4).f1)]] (by rfl) rfl rfl (by (try simp only [List.map_toArray, List.map_cons, List.map_nil]); first | done | (simp only [hji72]; rfl) | rfl | (simp only [List.length_drop, List.length_take]; rfl)) ?_
                    with_reducible refine (spec_l5UsesLess.calls ((rd_T75 l0_5 (ji72)).f0) ((rd_T75 l0_5 (ji72)).f1) ((rd_T75 l0_5 x6_4).f0) ((rd_T75 l0_5 x6_4).f1) false _ A75.out).mono ?_
                    rintro e w90 ⟨rfl, hb⟩
                    refine ⟨_, rfl, ?_⟩
                    have n0_ := Aside0.mk (blk_below (g := gb121) (qK BK121.out) hb)
                    have n1_ := Aside0.mk (blk_below (g := gb139) (qK BK139.out) hb)
                    have n2_ := Aside0.mk (below_step (qH GE121.out GE139.out) hb)
                    clear BK121
                    clear BK139
                    clear HB
                    have BK121 := n0_
                    have BK139 := n1_
                    have HB := n2_
                    clear n0_ n1_ n2_
                    (try clear hb)
                    (try clear hb2)
                    (try clear hk)
                    (try clear hi)
                    refine hK.out _ _ ⟨(blk_cell BK139.out 0).trans rfl, (blk_cell BK139.out 1).trans rfl, (blk_cell BK121.out 0).trans rfl, (blk_cell BK121.out 1).trans rfl, (blk_cell BK121.out 2).trans rfl, (blk_cell BK121.out 3).trans rfl, (blk_cell BK121.out 4).trans rfl, (blk_cell BK121.out 5).trans rfl, (blk_cell BK121.out 6).trans rfl, ((HB.out.cell (World.block_lt_of_cell? w _ hw142_0)).trans hw142_0), ((HB.out.cell (World.block_lt_of_cell? w _ hw142_1)).trans hw142_1)⟩ (fun hHeld => ?_)
                    clear hK K
                    refine norm_ (a' := ?_) ?_ ?_
                    rotate_left
                    ·show Act.put _ (some 150) _ = _
                     simp only [Act.put, sT, s0, sS, i64_w, i32_w]
                     rfl
                    refine qA 22 151 (tf 25 8388607) ?_
                    refine qA 23 152 (tf 25 16777215) ?_
                    refine qA 24 153 (tf 25 33554431) ?_
                    refine done_ (done_of HT_.out (by kernel_rfl)) ?_
                    try go_wp2
                    go_ret
                    exact ⟨by first | rfl | (simp [errW_none, errW_some] <;> rfl) | (simp only [← hji72]; first | rfl | (simp [errW_none, errW_some] <;> rfl)) | (simp [*, errW_none, errW_some] <;> rfl), by repeat (first | (with_reducible first | exact HB.out | apply below_alloc | apply pw_below_drewN | apply below_drew1 | refine below_set ?_ GE121.out | refine below_set ?_ GE139.out) | exact HB.out)⟩
                  ·rw [if_neg c74] at H
                   exact absurd H (by simp)
                 ·rw [if_neg c73] at H
                  exact absurd H (by simp)
                ·rw [if_neg c71] at H
                 have c71b0 : decide (0 < x6_4) = false := decide_eq_false c71
                 clear c71
                 have H' := Aside0.mk H
                 clear H
                 have hcz91_0 : wr.cell? ⟨gb121, 0, none⟩ = some (.string a0_0) := (blk_cell BK121.out 0).trans rfl
                 have hcz91_1 : wr.cell? ⟨gb121, 1, none⟩ = some (.string a0_1) := (blk_cell BK121.out 1).trans rfl
                 have hcz91_2 : wr.cell? ⟨gb121, 2, none⟩ = some (.slice A0_2 l0_2.length c0_2) := (blk_cell BK121.out 2).trans rfl
                 have hcz91_3 : wr.cell? ⟨gb121, 3, none⟩ = some (.string a0_3) := (blk_cell BK121.out 3).trans rfl
                 have hcz91_4 : wr.cell? ⟨gb121, 4, none⟩ = some (.slice A0_4 l0_4.length c0_4) := (blk_cell BK121.out 4).trans rfl
                 have hcz91_5 : wr.cell? ⟨gb121, 5, none⟩ = some (.slice A0_5 l0_5.length c0_5) := (blk_cell BK121.out 5).trans rfl
                 have hcz91_6 : wr.cell? ⟨gb121, 6, none⟩ = some (.slice A0_6 l0_6.length c0_6) := (blk_cell BK121.out 6).trans rfl
                 have hfz91_0 := blk_frozen BK121.out 0
                 have hfz91_1 := blk_frozen BK121.out 1
                 have hfz91_2 := blk_frozen BK121.out 2
                 have hfz91_3 := blk_frozen BK121.out 3
                 have hfz91_4 := blk_frozen BK121.out 4
                 have hfz91_5 := blk_frozen BK121.out 5
                 have hfz91_6 := blk_frozen BK121.out 6
                 have p138 : 0 ≤ (x6_4 : Int) := of_decide_eq_true (by first | (with_reducible assumption) | assumption)
                 have q138 : x6_4 < (l0_5.length : Int) := of_decide_eq_true (by first | (with_reducible assumption) | assumption)
                 obtain ⟨ad138, e138, hx138_0, hx138_1⟩ := at_T75 HR0_5.out x6_4 p138 q138
                 cases e138
                 replace hx138_0 := (HB.out.cell (World.block_lt_of_cell? w _ hx138_0)).trans hx138_0
                 replace hx138_1 := (HB.out.cell (World.block_lt_of_cell? w _ hx138_1)).trans hx138_1
                 replace p138 := eq_true p138
                 replace q138 := eq_true q138
                 try go_wp2_with (first | ((with_reducible refine gate_dst (N := 7) rfl ?_); refine box_event ?hg (N := 7) ?hd (cs := #[.string (⟨#[]⟩ : ByteArray), .string (⟨#[]⟩ : ByteArray)]) (t := 75) ?hr ?_; (case hd => rfl); (case hg => rfl); (case hr => first | (go_simp; done) | (go_simp; rfl)); intro gb139 hg w92 hbox hb; have n0_ := Aside0.mk (blk_below (g := gb121) (qK BK121.out) hb); have n1_ := Aside0.mk (below_step (qG GE121.out) hb); have n2_ := Aside0.mk (hbox); have n3_ := Aside0.mk ((by rw [hg]; exact (below_size (qG GE121.out)) : w.heap.size ≤ gb139)); have n4_ := Aside0.mk ((by rw [hg]; exact (below_size (qG GE121.out)) : w.heap.size ≤ gb139)); have n5_ := Aside0.mk ((by rw [hg]; exact Nat.ne_of_lt (blk_lt (g := gb121) (qK BK121.out)) : gb121 ≠ gb139)); have n6_ := Aside0.mk ((by rw [hg]; exact Nat.ne_of_gt (blk_lt (g := gb121) (qK BK121.out)) : gb139 ≠ gb121)); clear BK121; clear HB; have BK121 := n0_; have HB := n1_; have BK139 := n2_; have GW139 := n3_; have GE139 := n4_; have NB121_139 := n5_; have NB139_121 := n6_; clear n0_ n1_ n2_ n3_ n4_ n5_ n6_; clear hb hbox hg; have hnb93 := NB139_121.out; have hnc93 := NB121_139.out; have hcz94_0 : w92.cell? ⟨gb139, 0, none⟩ = some (.string (⟨#[]⟩ : ByteArray)) := (blk_cell BK139.out 0).trans rfl; have hcz94_1 : w92.cell? ⟨gb139, 1, none⟩ = some (.string (⟨#[]⟩ : ByteArray)) := (blk_cell BK139.out 1).trans rfl; have hfz94_0 := blk_frozen BK139.out 0; have hfz94_1 := blk_frozen BK139.out 1))
                 have n0_ : Aside0 (((w92.setCell ⟨gb139, 0, none⟩ (.string ((rd_T75 l0_5 x6_4).f0))).setCell ⟨gb139, 1, none⟩ (.string ((rd_T75 l0_5 x6_4).f1))).heap[gb121]? = some (.cells #[.string a0_0, .string a0_1, .slice A0_2 l0_2.length c0_2, .string a0_3, .slice A0_4 l0_4.length c0_4, .slice (some ad138) l0_5.length c0_5, .slice A0_6 l0_6.length c0_6] 48 (0, 0))) := ⟨by (with_reducible repeat (first | refine blk_drewN ?_ _ | refine blk_drew ?_ | refine blk_alloc ?_ _)); refine blk_far ?_ NB121_139.out _; (with_reducible repeat (first | refine blk_drewN ?_ _ | refine blk_drew ?_ | refine blk_alloc ?_ _)); refine blk_far ?_ NB121_139.out _; (with_reducible repeat (first | refine blk_drewN ?_ _ | refine blk_drew ?_ | refine blk_alloc ?_ _)); exact BK121.out⟩
                 have n1_ : Aside0 (((w92.setCell ⟨gb139, 0, none⟩ (.string ((rd_T75 l0_5 x6_4).f0))).setCell ⟨gb139, 1, none⟩ (.string ((rd_T75 l0_5 x6_4).f1))).heap[gb139]? = some (.cells #[.string ((rd_T75 l0_5 x6_4).f0), .string ((rd_T75 l0_5 x6_4).f1)] 75 (0, 0))) := ⟨by (with_reducible repeat (first | refine blk_drewN ?_ _ | refine blk_drew ?_ | refine blk_alloc ?_ _)); refine blk_put (cs := #[.string ((rd_T75 l0_5 x6_4).f0), .string (⟨#[]⟩ : ByteArray)]) ?_ 1 _ rfl; (with_reducible repeat (first | refine blk_drewN ?_ _ | refine blk_drew ?_ | refine blk_alloc ?_ _)); refine blk_put (cs := #[.string (⟨#[]⟩ : ByteArray), .string (⟨#[]⟩ : ByteArray)]) ?_ 0 _ rfl; (with_reducible repeat (first | refine blk_drewN ?_ _ | refine blk_drew ?_ | refine blk_alloc ?_ _)); exact BK139.out⟩
                 have n2_ : Aside0 (Below w.heap.size w ((w92.setCell ⟨gb139, 0, none⟩ (.string ((rd_T75 l0_5 x6_4).f0))).setCell ⟨gb139, 1, none⟩ (.string ((rd_T75 l0_5 x6_4).f1)))) := ⟨by repeat (first | (with_reducible first | exact HB.out | apply below_alloc | apply pw_below_drewN | apply below_drew1 | refine below_set ?_ GE121.out | refine below_set ?_ GE139.out) | exact HB.out)⟩
                 (try clear BK121)
                 (try clear BK139)
                 (try clear HB)
                 generalize ((w92.setCell ⟨gb139, 0, none⟩ (.string ((rd_T75 l0_5 x6_4).f0))).setCell ⟨gb139, 1, none⟩ (.string ((rd_T75 l0_5 x6_4).f1))) = w95 at n0_ n1_ n2_ ⊢
                 have BK121 := n0_
                 have BK139 := n1_
                 have HB := n2_
                 clear n0_ n1_ n2_
                 have n0_ := Aside0.mk (blk_drew BK121.out)
                 have n1_ := Aside0.mk (blk_drew BK139.out)
                 have n2_ := Aside0.mk (below_drew1 HB.out)
                 clear BK121
                 clear BK139
                 clear HB
                 have BK121 := n0_
                 have BK139 := n1_
                 have HB := n2_
                 clear n0_ n1_ n2_
                 refine start_ (n := 25) (S := fun w' => w'.cell? ⟨gb139, 0, none⟩ = some (.string ((rd_T75 l0_5 x6_4).f0)) ∧ w'.cell? ⟨gb139, 1, none⟩ = some (.string ((rd_T75 l0_5 x6_4).f1))) (ds := []) (tf 25 0) (by kernel_rfl) rfl rfl ⟨(blk_cell BK139.out 0).trans rfl, (blk_cell BK139.out 1).trans rfl⟩ (fun hHeld => ?_); refine with_tabW spec_l5Usual.tab20 spec_l5Usual.bits20 (fun HT_ HW_ => ?_)
                 generalize w95.drew = w96 at BK121 BK139 HB hHeld ⊢
                 refine qA 0 129 (tf 25 1) ?_
                 refine qT 1 130 (tf 25 3) ?_
                 refine one_ (i := 2) (N := some 131) (tf 25 7) rfl rfl (one_of HT_.out (by kernel_rfl)) (by decide) (fun K hK => ?_)
                 refine goes_ Try.func8 (by kernel_rfl) rfl #[.string ((rd_T75 l0_5 x6_4).f0)] (by rfl) rfl rfl (by (try simp only [List.map_toArray, List.map_cons, List.map_nil]); first | done | rfl | (simp only [List.length_drop, List.length_take]; rfl)) ?_
                 with_reducible refine (spec_AddressOk.calls k4 ((rd_T75 l0_5 x6_4).f0) true _ A67.out).mono ?_
                 rintro e w' ⟨rfl, ⟨nd, rfl⟩⟩
                 refine ⟨_, rfl, ?_⟩
                 refine hK.out _ _ ⟨(blk_cell BK139.out 0).trans rfl, (blk_cell BK139.out 1).trans rfl⟩ (fun hHeld => ?_)
                 clear hK K
                 refine norm_ (a' := ?_) ?_ ?_
                 rotate_left
                 ·show Act.put _ (some 131) _ = _
                  simp only [Act.put, sT, s0, sS, i64_w, i32_w]
                  rfl
                 refine qA 3 132 (tf 25 15) ?_
                 refine qA 4 133 (tf 25 31) ?_
                 refine qA 5 134 (tf 25 63) ?_
                 refine qT 6 135 (tf 25 127) ?_
                 refine one_ (i := 7) (N := some 136) (tf 25 255) rfl rfl (one_of HT_.out (by kernel_rfl)) (by decide) (fun K hK => ?_)
                 refine goes_ Try.func21 (by kernel_rfl) rfl #[.string ((rd_T75 l0_5 x6_4).f1)] (by rfl) rfl rfl (by (try simp only [List.map_toArray, List.map_cons, List.map_nil]); first | done | rfl | (simp only [List.length_drop, List.length_take]; rfl)) ?_
                 with_reducible refine (spec_NameOk.calls k4 ((rd_T75 l0_5 x6_4).f1) true _ A69.out).mono ?_
                 rintro e w' ⟨rfl, ⟨nd, rfl⟩⟩
                 refine ⟨_, rfl, ?_⟩
                 refine hK.out _ _ ⟨(blk_cell BK139.out 0).trans rfl, (blk_cell BK139.out 1).trans rfl⟩ (fun hHeld => ?_)
                 clear hK K
                 refine norm_ (a' := ?_) ?_ ?_
                 rotate_left
                 ·show Act.put _ (some 136) _ = _
                  simp only [Act.put, sT, s0, sS, i64_w, i32_w]
                  rfl
                 refine qA 8 137 (tf 25 511) ?_
                 refine qA 9 138 (tf 25 1023) ?_
                 refine qA 10 139 (tf 25 2047) ?_
                 refine qA 11 140 (tf 25 4095) ?_
                 refine qA 12 141 (tf 25 8191) ?_
                 refine qA 13 142 (tf 25 16383) ?_
                 refine qU 14 143 (tf 25 32767) ?_
                 refine qU 15 144 (tf 25 65535) ?_
                 refine qU 16 145 (tf 25 131071) ?_
                 refine qU 17 146 (tf 25 262143) ?_
                 refine qU 18 147 (tf 25 524287) ?_
                 refine qU 19 148 (tf 25 1048575) ?_
                 refine qU 20 149 (tf 25 2097151) ?_
                 refine qU 21 150 (tf 25 4194303) ?_
                 refine qU 22 151 (tf 25 8388607) ?_
                 refine qA 23 152 (tf 25 16777215) ?_
                 refine qA 24 153 (tf 25 33554431) ?_
                 refine done_ (done_of HT_.out (by kernel_rfl)) ?_
                 try go_wp2
                 go_roundg k4
                 case measure => have := HK1.out; have := HK2.out; have := HK3.out; have := HK4.out; omega
                 case rel => exact ⟨(wrap64 (x6_4 + 1)), (by first | rfl | (simp; done) | (simp [*]; done)), H', ⟨by have := HK1.out; have := HK2.out; have := HK3.out; have := HK4.out; omega⟩, ⟨by (with_reducible repeat (first | refine blk_drewN ?_ _ | refine blk_drew ?_ | refine blk_alloc ?_ _)); exact BK121.out⟩, ⟨by repeat (first | (with_reducible first | exact HB.out | apply below_alloc | apply pw_below_drewN | apply below_drew1 | refine below_set ?_ GE121.out | refine below_set ?_ GE139.out) | exact HB.out)⟩⟩
               ·replace c70 := Bool.eq_false_iff.mpr c70
                subst c70
                have H1 : (some false) = some r := by rw [if_neg (show ¬ (false = true) by decide)] at H; exact H
                clear H
                have H := H1
                clear H1
                obtain rfl := Option.some.inj H
                have hcz97_0 : wr.cell? ⟨gb121, 0, none⟩ = some (.string a0_0) := (blk_cell BK121.out 0).trans rfl
                have hcz97_1 : wr.cell? ⟨gb121, 1, none⟩ = some (.string a0_1) := (blk_cell BK121.out 1).trans rfl
                have hcz97_2 : wr.cell? ⟨gb121, 2, none⟩ = some (.slice A0_2 l0_2.length c0_2) := (blk_cell BK121.out 2).trans rfl
                have hcz97_3 : wr.cell? ⟨gb121, 3, none⟩ = some (.string a0_3) := (blk_cell BK121.out 3).trans rfl
                have hcz97_4 : wr.cell? ⟨gb121, 4, none⟩ = some (.slice A0_4 l0_4.length c0_4) := (blk_cell BK121.out 4).trans rfl
                have hcz97_5 : wr.cell? ⟨gb121, 5, none⟩ = some (.slice A0_5 l0_5.length c0_5) := (blk_cell BK121.out 5).trans rfl
                have hcz97_6 : wr.cell? ⟨gb121, 6, none⟩ = some (.slice A0_6 l0_6.length c0_6) := (blk_cell BK121.out 6).trans rfl
                have hfz97_0 := blk_frozen BK121.out 0
                have hfz97_1 := blk_frozen BK121.out 1
                have hfz97_2 := blk_frozen BK121.out 2
                have hfz97_3 := blk_frozen BK121.out 3
                have hfz97_4 := blk_frozen BK121.out 4
                have hfz97_5 := blk_frozen BK121.out 5
                have hfz97_6 := blk_frozen BK121.out 6
                have p138 : 0 ≤ (x6_4 : Int) := of_decide_eq_true (by first | (with_reducible assumption) | assumption)
                have q138 : x6_4 < (l0_5.length : Int) := of_decide_eq_true (by first | (with_reducible assumption) | assumption)
                obtain ⟨ad138, e138, hx138_0, hx138_1⟩ := at_T75 HR0_5.out x6_4 p138 q138
                cases e138
                replace hx138_0 := (HB.out.cell (World.block_lt_of_cell? w _ hx138_0)).trans hx138_0
                replace hx138_1 := (HB.out.cell (World.block_lt_of_cell? w _ hx138_1)).trans hx138_1
                replace p138 := eq_true p138
                replace q138 := eq_true q138
                try go_wp2_with (first | ((with_reducible refine gate_dst (N := 7) rfl ?_); refine box_event ?hg (N := 7) ?hd (cs := #[.string (⟨#[]⟩ : ByteArray), .string (⟨#[]⟩ : ByteArray)]) (t := 75) ?hr ?_; (case hd => rfl); (case hg => rfl); (case hr => first | (go_simp; done) | (go_simp; rfl)); intro gb139 hg w98 hbox hb; have n0_ := Aside0.mk (blk_below (g := gb121) (qK BK121.out) hb); have n1_ := Aside0.mk (below_step (qG GE121.out) hb); have n2_ := Aside0.mk (hbox); have n3_ := Aside0.mk ((by rw [hg]; exact (below_size (qG GE121.out)) : w.heap.size ≤ gb139)); have n4_ := Aside0.mk ((by rw [hg]; exact (below_size (qG GE121.out)) : w.heap.size ≤ gb139)); have n5_ := Aside0.mk ((by rw [hg]; exact Nat.ne_of_lt (blk_lt (g := gb121) (qK BK121.out)) : gb121 ≠ gb139)); have n6_ := Aside0.mk ((by rw [hg]; exact Nat.ne_of_gt (blk_lt (g := gb121) (qK BK121.out)) : gb139 ≠ gb121)); clear BK121; clear HB; have BK121 := n0_; have HB := n1_; have BK139 := n2_; have GW139 := n3_; have GE139 := n4_; have NB121_139 := n5_; have NB139_121 := n6_; clear n0_ n1_ n2_ n3_ n4_ n5_ n6_; clear hb hbox hg; have hnb99 := NB139_121.out; have hnc99 := NB121_139.out; have hcz100_0 : w98.cell? ⟨gb139, 0, none⟩ = some (.string (⟨#[]⟩ : ByteArray)) := (blk_cell BK139.out 0).trans rfl; have hcz100_1 : w98.cell? ⟨gb139, 1, none⟩ = some (.string (⟨#[]⟩ : ByteArray)) := (blk_cell BK139.out 1).trans rfl; have hfz100_0 := blk_frozen BK139.out 0; have hfz100_1 := blk_frozen BK139.out 1))
                have n0_ : Aside0 (((w98.setCell ⟨gb139, 0, none⟩ (.string ((rd_T75 l0_5 x6_4).f0))).setCell ⟨gb139, 1, none⟩ (.string ((rd_T75 l0_5 x6_4).f1))).heap[gb121]? = some (.cells #[.string a0_0, .string a0_1, .slice A0_2 l0_2.length c0_2, .string a0_3, .slice A0_4 l0_4.length c0_4, .slice (some ad138) l0_5.length c0_5, .slice A0_6 l0_6.length c0_6] 48 (0, 0))) := ⟨by (with_reducible repeat (first | refine blk_drewN ?_ _ | refine blk_drew ?_ | refine blk_alloc ?_ _)); refine blk_far ?_ NB121_139.out _; (with_reducible repeat (first | refine blk_drewN ?_ _ | refine blk_drew ?_ | refine blk_alloc ?_ _)); refine blk_far ?_ NB121_139.out _; (with_reducible repeat (first | refine blk_drewN ?_ _ | refine blk_drew ?_ | refine blk_alloc ?_ _)); exact BK121.out⟩
                have n1_ : Aside0 (((w98.setCell ⟨gb139, 0, none⟩ (.string ((rd_T75 l0_5 x6_4).f0))).setCell ⟨gb139, 1, none⟩ (.string ((rd_T75 l0_5 x6_4).f1))).heap[gb139]? = some (.cells #[.string ((rd_T75 l0_5 x6_4).f0), .string ((rd_T75 l0_5 x6_4).f1)] 75 (0, 0))) := ⟨by (with_reducible repeat (first | refine blk_drewN ?_ _ | refine blk_drew ?_ | refine blk_alloc ?_ _)); refine blk_put (cs := #[.string ((rd_T75 l0_5 x6_4).f0), .string (⟨#[]⟩ : ByteArray)]) ?_ 1 _ rfl; (with_reducible repeat (first | refine blk_drewN ?_ _ | refine blk_drew ?_ | refine blk_alloc ?_ _)); refine blk_put (cs := #[.string (⟨#[]⟩ : ByteArray), .string (⟨#[]⟩ : ByteArray)]) ?_ 0 _ rfl; (with_reducible repeat (first | refine blk_drewN ?_ _ | refine blk_drew ?_ | refine blk_alloc ?_ _)); exact BK139.out⟩
                have n2_ : Aside0 (Below w.heap.size w ((w98.setCell ⟨gb139, 0, none⟩ (.string ((rd_T75 l0_5 x6_4).f0))).setCell ⟨gb139, 1, none⟩ (.string ((rd_T75 l0_5 x6_4).f1)))) := ⟨by repeat (first | (with_reducible first | exact HB.out | apply below_alloc | apply pw_below_drewN | apply below_drew1 | refine below_set ?_ GE121.out | refine below_set ?_ GE139.out) | exact HB.out)⟩
                (try clear BK121)
                (try clear BK139)
                (try clear HB)
                generalize ((w98.setCell ⟨gb139, 0, none⟩ (.string ((rd_T75 l0_5 x6_4).f0))).setCell ⟨gb139, 1, none⟩ (.string ((rd_T75 l0_5 x6_4).f1))) = w101 at n0_ n1_ n2_ ⊢
                have BK121 := n0_
                have BK139 := n1_
                have HB := n2_
                clear n0_ n1_ n2_
                have n0_ := Aside0.mk (blk_drew BK121.out)
                have n1_ := Aside0.mk (blk_drew BK139.out)
                have n2_ := Aside0.mk (below_drew1 HB.out)
                clear BK121
                clear BK139
                clear HB
                have BK121 := n0_
                have BK139 := n1_
                have HB := n2_
                clear n0_ n1_ n2_
                refine start_ (n := 25) (S := fun w' => w'.cell? ⟨gb139, 0, none⟩ = some (.string ((rd_T75 l0_5 x6_4).f0)) ∧ w'.cell? ⟨gb139, 1, none⟩ = some (.string ((rd_T75 l0_5 x6_4).f1))) (ds := []) (tf 25 0) (by kernel_rfl) rfl rfl ⟨(blk_cell BK139.out 0).trans rfl, (blk_cell BK139.out 1).trans rfl⟩ (fun hHeld => ?_); refine with_tabW spec_l5Usual.tab20 spec_l5Usual.bits20 (fun HT_ HW_ => ?_)
                generalize w101.drew = w102 at BK121 BK139 HB hHeld ⊢
                refine qA 0 129 (tf 25 1) ?_
                refine qT 1 130 (tf 25 3) ?_
                refine one_ (i := 2) (N := some 131) (tf 25 7) rfl rfl (one_of HT_.out (by kernel_rfl)) (by decide) (fun K hK => ?_)
                refine goes_ Try.func8 (by kernel_rfl) rfl #[.string ((rd_T75 l0_5 x6_4).f0)] (by rfl) rfl rfl (by (try simp only [List.map_toArray, List.map_cons, List.map_nil]); first | done | rfl | (simp only [List.length_drop, List.length_take]; rfl)) ?_
                with_reducible refine (spec_AddressOk.calls k4 ((rd_T75 l0_5 x6_4).f0) true _ A67.out).mono ?_
                rintro e w' ⟨rfl, ⟨nd, rfl⟩⟩
                refine ⟨_, rfl, ?_⟩
                refine hK.out _ _ ⟨(blk_cell BK139.out 0).trans rfl, (blk_cell BK139.out 1).trans rfl⟩ (fun hHeld => ?_)
                clear hK K
                refine norm_ (a' := ?_) ?_ ?_
                rotate_left
                ·show Act.put _ (some 131) _ = _
                 simp only [Act.put, sT, s0, sS, i64_w, i32_w]
                 rfl
                refine qA 3 132 (tf 25 15) ?_
                refine qA 4 133 (tf 25 31) ?_
                refine qA 5 134 (tf 25 63) ?_
                refine qT 6 135 (tf 25 127) ?_
                refine one_ (i := 7) (N := some 136) (tf 25 255) rfl rfl (one_of HT_.out (by kernel_rfl)) (by decide) (fun K hK => ?_)
                refine goes_ Try.func21 (by kernel_rfl) rfl #[.string ((rd_T75 l0_5 x6_4).f1)] (by rfl) rfl rfl (by (try simp only [List.map_toArray, List.map_cons, List.map_nil]); first | done | rfl | (simp only [List.length_drop, List.length_take]; rfl)) ?_
                with_reducible refine (spec_NameOk.calls k4 ((rd_T75 l0_5 x6_4).f1) false _ A69.out).mono ?_
                rintro e w' ⟨rfl, ⟨nd, rfl⟩⟩
                refine ⟨_, rfl, ?_⟩
                refine hK.out _ _ ⟨(blk_cell BK139.out 0).trans rfl, (blk_cell BK139.out 1).trans rfl⟩ (fun hHeld => ?_)
                clear hK K
                refine norm_ (a' := ?_) ?_ ?_
                rotate_left
                ·show Act.put _ (some 136) _ = _
                 simp only [Act.put, sT, s0, sS, i64_w, i32_w]
                 rfl
                refine qA 8 137 (tf 25 511) ?_
                refine qA 9 138 (tf 25 1023) ?_
                refine qA 10 139 (tf 25 2047) ?_
                refine qU 11 140 (tf 25 4095) ?_
                refine qU 12 141 (tf 25 8191) ?_
                refine qU 13 142 (tf 25 16383) ?_
                refine qU 14 143 (tf 25 32767) ?_
                refine qU 15 144 (tf 25 65535) ?_
                refine qU 16 145 (tf 25 131071) ?_
                refine qU 17 146 (tf 25 262143) ?_
                refine qU 18 147 (tf 25 524287) ?_
                refine qU 19 148 (tf 25 1048575) ?_
                refine qU 20 149 (tf 25 2097151) ?_
                refine qU 21 150 (tf 25 4194303) ?_
                refine qU 22 151 (tf 25 8388607) ?_
                refine qU 23 152 (tf 25 16777215) ?_
                refine qA 24 153 (tf 25 33554431) ?_
                refine done_ (done_of HT_.out (by kernel_rfl)) ?_
                try go_wp2
                go_ret
                exact ⟨by first | rfl | (simp [errW_none, errW_some] <;> rfl) | (simp [*, errW_none, errW_some] <;> rfl), by repeat (first | (with_reducible first | exact HB.out | apply below_alloc | apply pw_below_drewN | apply below_drew1 | refine below_set ?_ GE121.out | refine below_set ?_ GE139.out) | exact HB.out)⟩
              ·replace c68 := Bool.eq_false_iff.mpr c68
               subst c68
               have H1 : (some false) = some r := by rw [if_neg (show ¬ (false = true) by decide)] at H; exact H
               clear H
               have H := H1
               clear H1
               obtain rfl := Option.some.inj H
               have hcz103_0 : wr.cell? ⟨gb121, 0, none⟩ = some (.string a0_0) := (blk_cell BK121.out 0).trans rfl
               have hcz103_1 : wr.cell? ⟨gb121, 1, none⟩ = some (.string a0_1) := (blk_cell BK121.out 1).trans rfl
               have hcz103_2 : wr.cell? ⟨gb121, 2, none⟩ = some (.slice A0_2 l0_2.length c0_2) := (blk_cell BK121.out 2).trans rfl
               have hcz103_3 : wr.cell? ⟨gb121, 3, none⟩ = some (.string a0_3) := (blk_cell BK121.out 3).trans rfl
               have hcz103_4 : wr.cell? ⟨gb121, 4, none⟩ = some (.slice A0_4 l0_4.length c0_4) := (blk_cell BK121.out 4).trans rfl
               have hcz103_5 : wr.cell? ⟨gb121, 5, none⟩ = some (.slice A0_5 l0_5.length c0_5) := (blk_cell BK121.out 5).trans rfl
               have hcz103_6 : wr.cell? ⟨gb121, 6, none⟩ = some (.slice A0_6 l0_6.length c0_6) := (blk_cell BK121.out 6).trans rfl
               have hfz103_0 := blk_frozen BK121.out 0
               have hfz103_1 := blk_frozen BK121.out 1
               have hfz103_2 := blk_frozen BK121.out 2
               have hfz103_3 := blk_frozen BK121.out 3
               have hfz103_4 := blk_frozen BK121.out 4
               have hfz103_5 := blk_frozen BK121.out 5
               have hfz103_6 := blk_frozen BK121.out 6
               have p138 : 0 ≤ (x6_4 : Int) := of_decide_eq_true (by first | (with_reducible assumption) | assumption)
               have q138 : x6_4 < (l0_5.length : Int) := of_decide_eq_true (by first | (with_reducible assumption) | assumption)
               obtain ⟨ad138, e138, hx138_0, hx138_1⟩ := at_T75 HR0_5.out x6_4 p138 q138
               cases e138
               replace hx138_0 := (HB.out.cell (World.block_lt_of_cell? w _ hx138_0)).trans hx138_0
               replace hx138_1 := (HB.out.cell (World.block_lt_of_cell? w _ hx138_1)).trans hx138_1
               replace p138 := eq_true p138
               replace q138 := eq_true q138
               try go_wp2_with (first | ((with_reducible refine gate_dst (N := 7) rfl ?_); refine box_event ?hg (N := 7) ?hd (cs := #[.string (⟨#[]⟩ : ByteArray), .string (⟨#[]⟩ : ByteArray)]) (t := 75) ?hr ?_; (case hd => rfl); (case hg => rfl); (case hr => first | (go_simp; done) | (go_simp; rfl)); intro gb139 hg w104 hbox hb; have n0_ := Aside0.mk (blk_below (g := gb121) (qK BK121.out) hb); have n1_ := Aside0.mk (below_step (qG GE121.out) hb); have n2_ := Aside0.mk (hbox); have n3_ := Aside0.mk ((by rw [hg]; exact (below_size (qG GE121.out)) : w.heap.size ≤ gb139)); have n4_ := Aside0.mk ((by rw [hg]; exact (below_size (qG GE121.out)) : w.heap.size ≤ gb139)); have n5_ := Aside0.mk ((by rw [hg]; exact Nat.ne_of_lt (blk_lt (g := gb121) (qK BK121.out)) : gb121 ≠ gb139)); have n6_ := Aside0.mk ((by rw [hg]; exact Nat.ne_of_gt (blk_lt (g := gb121) (qK BK121.out)) : gb139 ≠ gb121)); clear BK121; clear HB; have BK121 := n0_; have HB := n1_; have BK139 := n2_; have GW139 := n3_; have GE139 := n4_; have NB121_139 := n5_; have NB139_121 := n6_; clear n0_ n1_ n2_ n3_ n4_ n5_ n6_; clear hb hbox hg; have hnb105 := NB139_121.out; have hnc105 := NB121_139.out; have hcz106_0 : w104.cell? ⟨gb139, 0, none⟩ = some (.string (⟨#[]⟩ : ByteArray)) := (blk_cell BK139.out 0).trans rfl; have hcz106_1 : w104.cell? ⟨gb139, 1, none⟩ = some (.string (⟨#[]⟩ : ByteArray)) := (blk_cell BK139.out 1).trans rfl; have hfz106_0 := blk_frozen BK139.out 0; have hfz106_1 := blk_frozen BK139.out 1))
               have n0_ : Aside0 (((w104.setCell ⟨gb139, 0, none⟩ (.string ((rd_T75 l0_5 x6_4).f0))).setCell ⟨gb139, 1, none⟩ (.string ((rd_T75 l0_5 x6_4).f1))).heap[gb121]? = some (.cells #[.string a0_0, .string a0_1, .slice A0_2 l0_2.length c0_2, .string a0_3, .slice A0_4 l0_4.length c0_4, .slice (some ad138) l0_5.length c0_5, .slice A0_6 l0_6.length c0_6] 48 (0, 0))) := ⟨by (with_reducible repeat (first | refine blk_drewN ?_ _ | refine blk_drew ?_ | refine blk_alloc ?_ _)); refine blk_far ?_ NB121_139.out _; (with_reducible repeat (first | refine blk_drewN ?_ _ | refine blk_drew ?_ | refine blk_alloc ?_ _)); refine blk_far ?_ NB121_139.out _; (with_reducible repeat (first | refine blk_drewN ?_ _ | refine blk_drew ?_ | refine blk_alloc ?_ _)); exact BK121.out⟩
               have n1_ : Aside0 (((w104.setCell ⟨gb139, 0, none⟩ (.string ((rd_T75 l0_5 x6_4).f0))).setCell ⟨gb139, 1, none⟩ (.string ((rd_T75 l0_5 x6_4).f1))).heap[gb139]? = some (.cells #[.string ((rd_T75 l0_5 x6_4).f0), .string ((rd_T75 l0_5 x6_4).f1)] 75 (0, 0))) := ⟨by (with_reducible repeat (first | refine blk_drewN ?_ _ | refine blk_drew ?_ | refine blk_alloc ?_ _)); refine blk_put (cs := #[.string ((rd_T75 l0_5 x6_4).f0), .string (⟨#[]⟩ : ByteArray)]) ?_ 1 _ rfl; (with_reducible repeat (first | refine blk_drewN ?_ _ | refine blk_drew ?_ | refine blk_alloc ?_ _)); refine blk_put (cs := #[.string (⟨#[]⟩ : ByteArray), .string (⟨#[]⟩ : ByteArray)]) ?_ 0 _ rfl; (with_reducible repeat (first | refine blk_drewN ?_ _ | refine blk_drew ?_ | refine blk_alloc ?_ _)); exact BK139.out⟩
               have n2_ : Aside0 (Below w.heap.size w ((w104.setCell ⟨gb139, 0, none⟩ (.string ((rd_T75 l0_5 x6_4).f0))).setCell ⟨gb139, 1, none⟩ (.string ((rd_T75 l0_5 x6_4).f1)))) := ⟨by repeat (first | (with_reducible first | exact HB.out | apply below_alloc | apply pw_below_drewN | apply below_drew1 | refine below_set ?_ GE121.out | refine below_set ?_ GE139.out) | exact HB.out)⟩
               (try clear BK121)
               (try clear BK139)
               (try clear HB)
               generalize ((w104.setCell ⟨gb139, 0, none⟩ (.string ((rd_T75 l0_5 x6_4).f0))).setCell ⟨gb139, 1, none⟩ (.string ((rd_T75 l0_5 x6_4).f1))) = w107 at n0_ n1_ n2_ ⊢
               have BK121 := n0_
               have BK139 := n1_
               have HB := n2_
               clear n0_ n1_ n2_
               have n0_ := Aside0.mk (blk_drew BK121.out)
               have n1_ := Aside0.mk (blk_drew BK139.out)
               have n2_ := Aside0.mk (below_drew1 HB.out)
               clear BK121
               clear BK139
               clear HB
               have BK121 := n0_
               have BK139 := n1_
               have HB := n2_
               clear n0_ n1_ n2_
               refine start_ (n := 25) (S := fun w' => w'.cell? ⟨gb139, 0, none⟩ = some (.string ((rd_T75 l0_5 x6_4).f0)) ∧ w'.cell? ⟨gb139, 1, none⟩ = some (.string ((rd_T75 l0_5 x6_4).f1))) (ds := []) (tf 25 0) (by kernel_rfl) rfl rfl ⟨(blk_cell BK139.out 0).trans rfl, (blk_cell BK139.out 1).trans rfl⟩ (fun hHeld => ?_); refine with_tabW spec_l5Usual.tab20 spec_l5Usual.bits20 (fun HT_ HW_ => ?_)
               generalize w107.drew = w108 at BK121 BK139 HB hHeld ⊢
               refine qA 0 129 (tf 25 1) ?_
               refine qT 1 130 (tf 25 3) ?_
               refine one_ (i := 2) (N := some 131) (tf 25 7) rfl rfl (one_of HT_.out (by kernel_rfl)) (by decide) (fun K hK => ?_)
               refine goes_ Try.func8 (by kernel_rfl) rfl #[.string ((rd_T75 l0_5 x6_4).f0)] (by rfl) rfl rfl (by (try simp only [List.map_toArray, List.map_cons, List.map_nil]); first | done | rfl | (simp only [List.length_drop, List.length_take]; rfl)) ?_
               with_reducible refine (spec_AddressOk.calls k4 ((rd_T75 l0_5 x6_4).f0) false _ A67.out).mono ?_
               rintro e w' ⟨rfl, ⟨nd, rfl⟩⟩
               refine ⟨_, rfl, ?_⟩
               refine hK.out _ _ ⟨(blk_cell BK139.out 0).trans rfl, (blk_cell BK139.out 1).trans rfl⟩ (fun hHeld => ?_)
               clear hK K
               refine norm_ (a' := ?_) ?_ ?_
               rotate_left
               ·show Act.put _ (some 131) _ = _
                simp only [Act.put, sT, s0, sS, i64_w, i32_w]
                rfl
               refine qA 3 132 (tf 25 15) ?_
               refine qA 4 133 (tf 25 31) ?_
               refine qU 5 134 (tf 25 63) ?_
               refine qU 6 135 (tf 25 127) ?_
               refine qU 7 136 (tf 25 255) ?_
               refine qU 8 137 (tf 25 511) ?_
               refine qA 9 138 (tf 25 1023) ?_
               refine qA 10 139 (tf 25 2047) ?_
               refine qU 11 140 (tf 25 4095) ?_
               refine qU 12 141 (tf 25 8191) ?_
               refine qU 13 142 (tf 25 16383) ?_
               refine qU 14 143 (tf 25 32767) ?_
               refine qU 15 144 (tf 25 65535) ?_
               refine qU 16 145 (tf 25 131071) ?_
               refine qU 17 146 (tf 25 262143) ?_
               refine qU 18 147 (tf 25 524287) ?_
               refine qU 19 148 (tf 25 1048575) ?_
               refine qU 20 149 (tf 25 2097151) ?_
               refine qU 21 150 (tf 25 4194303) ?_
               refine qU 22 151 (tf 25 8388607) ?_
               refine qU 23 152 (tf 25 16777215) ?_
               refine qA 24 153 (tf 25 33554431) ?_
               refine done_ (done_of HT_.out (by kernel_rfl)) ?_
               try go_wp2
               go_ret
               exact ⟨by first | rfl | (simp [errW_none, errW_some] <;> rfl) | (simp [*, errW_none, errW_some] <;> rfl), by repeat (first | (with_reducible first | exact HB.out | apply below_alloc | apply pw_below_drewN | apply below_drew1 | refine below_set ?_ GE121.out | refine below_set ?_ GE139.out) | exact HB.out)⟩
             ·rw [if_neg c66] at H
              exact absurd H (by simp)
            ·rw [if_neg c65] at H
             have c65b0 : decide (x6_4 < (l0_5.length : Int)) = false := decide_eq_false c65
             clear c65
             obtain rfl := Option.some.inj H
             have hcz109_0 : wr.cell? ⟨gb121, 0, none⟩ = some (.string a0_0) := (blk_cell BK121.out 0).trans rfl
             have hcz109_1 : wr.cell? ⟨gb121, 1, none⟩ = some (.string a0_1) := (blk_cell BK121.out 1).trans rfl
             have hcz109_2 : wr.cell? ⟨gb121, 2, none⟩ = some (.slice A0_2 l0_2.length c0_2) := (blk_cell BK121.out 2).trans rfl
             have hcz109_3 : wr.cell? ⟨gb121, 3, none⟩ = some (.string a0_3) := (blk_cell BK121.out 3).trans rfl
             have hcz109_4 : wr.cell? ⟨gb121, 4, none⟩ = some (.slice A0_4 l0_4.length c0_4) := (blk_cell BK121.out 4).trans rfl
             have hcz109_5 : wr.cell? ⟨gb121, 5, none⟩ = some (.slice A0_5 l0_5.length c0_5) := (blk_cell BK121.out 5).trans rfl
             have hcz109_6 : wr.cell? ⟨gb121, 6, none⟩ = some (.slice A0_6 l0_6.length c0_6) := (blk_cell BK121.out 6).trans rfl
             have hfz109_0 := blk_frozen BK121.out 0
             have hfz109_1 := blk_frozen BK121.out 1
             have hfz109_2 := blk_frozen BK121.out 2
             have hfz109_3 := blk_frozen BK121.out 3
             have hfz109_4 := blk_frozen BK121.out 4
             have hfz109_5 := blk_frozen BK121.out 5
             have hfz109_6 := blk_frozen BK121.out 6
             go_wp2
             go_ret
             exact ⟨by first | rfl | (simp [errW_none, errW_some] <;> rfl) | (simp [*, errW_none, errW_some] <;> rfl), by repeat (first | (with_reducible first | exact HB.out | apply below_alloc | apply pw_below_drewN | apply below_drew1 | refine below_set ?_ GE121.out) | exact HB.out)⟩

end Go.Proofs.Ytklinldidfdnjaa.PFnExactDrvOk
