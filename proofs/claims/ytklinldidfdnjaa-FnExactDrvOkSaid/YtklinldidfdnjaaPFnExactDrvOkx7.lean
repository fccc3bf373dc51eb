-- Laid by a program of this session: a turned copy of the kit's print, with contracts by hand beside.
import Derived.Test.YtklinldidfdnjaaPFnExactDrvOkx0
import Derived.Test.YtklinldidfdnjaaPFnExactDrvOkx5
import Derived.Test.YtklinldidfdnjaaPFnExactDrvOkx6
namespace Go.Proofs.Ytklinldidfdnjaa.PFnExactDrvOk
open Go.RowKit Go.Proofs.YtklinldidfdnjaaW.PrintWords Go.Proofs.YtklinldidfdnjaaW.PrintLast Go.Proofs.YtklinldidfdnjaaW.PrintMore
attribute [local go_sem] max2_int min2_int max_two min_two max_three min_three max_four min_four   -- for this text's walks alone
set_option linter.unusedVariables false
set_option linter.unusedSimpArgs false

/-! ### impl_DrvOk: function 28 -/
mutual
def impl_DrvOk.j0 : Nat → Bool → ByteArray → ByteArray → List ByteArray → ByteArray → List (S73) → List (S75) → List ByteArray → Option (Bool)
 | 0, _, _, _, _, _, _, _, _ => none
 | k + 1, x65, x203000, x203001, x203002, x203003, x203004, x203005, x203006 => if x65 = true then (some false) else (impl_DrvOk.l0 k x203002 (x203002.length : Int) 0 x203000 x203001 x203002 x203003 x203004 x203005 x203006)
def impl_DrvOk.l0 : Nat → List ByteArray → Int → Int → ByteArray → ByteArray → List ByteArray → ByteArray → List (S73) → List (S75) → List ByteArray → Option (Bool)
 | 0, _, _, _, _, _, _, _, _, _, _ => none
 | k + 1, x67, x68, x69, x203000, x203001, x203002, x203003, x203004, x203005, x203006 => if x69 < x68 then (if 0 ≤ x69 then (if x69 < (x67.length : Int) then ((impl_NameOk.f k (rdOf ByteArray.empty x67 x69)).bind fun t208 => (if t208 = true then (impl_DrvOk.l0 k x67 x68 (wrap64 (x69 + 1)) x203000 x203001 x203002 x203003 x203004 x203005 x203006) else (some false))) else (none)) else (none)) else (if x203003.toList = ([] : List UInt8) then (impl_DrvOk.j2 k x203000 x203001 x203002 x203003 x203004 x203005 x203006) else ((impl_ReadWord32.f k x203003).bind fun bt209 => (if bt209.2 = true then (if (x203002.length : Int) = 1 then (if 0 < (x203002.length : Int) then (if (rdOf ByteArray.empty x203002 0).toList = ([111, 117, 116] : List UInt8) then (impl_DrvOk.j2 k x203000 x203001 x203002 x203003 x203004 x203005 x203006) else (some false)) else (none)) else (some false)) else (some false))))
def impl_DrvOk.j2 : Nat → ByteArray → ByteArray → List ByteArray → ByteArray → List (S73) → List (S75) → List ByteArray → Option (Bool)
 | 0, _, _, _, _, _, _, _ => none
 | k + 1, x203000, x203001, x203002, x203003, x203004, x203005, x203006 => impl_DrvOk.l1 k x203004 (x203004.length : Int) 0 x203000 x203001 x203002 x203003 x203004 x203005 x203006
def impl_DrvOk.l1 : Nat → List (S73) → Int → Int → ByteArray → ByteArray → List ByteArray → ByteArray → List (S73) → List (S75) → List ByteArray → Option (Bool)
 | 0, _, _, _, _, _, _, _, _, _, _ => none
 | k + 1, x102, x103, x104, x203000, x203001, x203002, x203003, x203004, x203005, x203006 => if x104 < x103 then (if 0 ≤ x104 then (if x104 < (x102.length : Int) then ((impl_NameOk.f k ((rd_T73 x102 x104).f0)).bind fun t214 => (if t214 = true then ((impl_plainText.f k ((rd_T73 x102 x104).f1)).bind fun t215 => (if t215 = true then (if x104 > 0 then (if 0 ≤ (wrap64 (x104 - 1)) then (if (wrap64 (x104 - 1)) < (x203004.length : Int) then (if ((Op.bytesLess (((rd_T73 x203004 (wrap64 (x104 - 1))).f0).toList) (((rd_T73 x102 x104).f0).toList)) = true) then (impl_DrvOk.l1 k x102 x103 (wrap64 (x104 + 1)) x203000 x203001 x203002 x203003 x203004 x203005 x203006) else (some false)) else (none)) else (none)) else (impl_DrvOk.l1 k x102 x103 (wrap64 (x104 + 1)) x203000 x203001 x203002 x203003 x203004 x203005 x203006)) else (some false))) else (some false))) else (none)) else (none)) else (impl_DrvOk.l2 k x203005 (x203005.length : Int) 0 x203000 x203001 x203002 x203003 x203004 x203005 x203006)
def impl_DrvOk.l2 : Nat → List (S75) → Int → Int → ByteArray → ByteArray → List ByteArray → ByteArray → List (S73) → List (S75) → List ByteArray → Option (Bool)
 | 0, _, _, _, _, _, _, _, _, _, _ => none
 | k + 1, x137, x138, x139, x203000, x203001, x203002, x203003, x203004, x203005, x203006 => if x139 < x138 then (if 0 ≤ x139 then (if x139 < (x137.length : Int) then ((impl_AddressOk.f k ((rd_T75 x137 x139).f0)).bind fun t219 => (if t219 = true then ((impl_NameOk.f k ((rd_T75 x137 x139).f1)).bind fun t220 => (impl_DrvOk.j5 k x139 x137 x138 x139 (!t220) x203000 x203001 x203002 x203003 x203004 x203005 x203006 ((rd_T75 x137 x139).f0) ((rd_T75 x137 x139).f1))) else (impl_DrvOk.j5 k x139 x137 x138 x139 true x203000 x203001 x203002 x203003 x203004 x203005 x203006 ((rd_T75 x137 x139).f0) ((rd_T75 x137 x139).f1)))) else (none)) else (none)) else (impl_DrvOk.l3 k x203006 (x203006.length : Int) 0)
def impl_DrvOk.j5 : Nat → Int → List (S75) → Int → Int → Bool → ByteArray → ByteArray → List ByteArray → ByteArray → List (S73) → List (S75) → List ByteArray → ByteArray → ByteArray → Option (Bool)
 | 0, _, _, _, _, _, _, _, _, _, _, _, _, _, _ => none
 | k + 1, x9, x137, x138, x139, x153, x203000, x203001, x203002, x203003, x203004, x203005, x203006, x219000, x219001 => if x153 = true then (some false) else (if x9 > 0 then (if 0 ≤ (wrap64 (x9 - 1)) then (if (wrap64 (x9 - 1)) < (x203005.length : Int) then (if (Op.bytesLess x219000.toList (((rd_T75 x203005 (wrap64 (x9 - 1))).f0).toList)) = true then (some false) else (if x219000.toList = ((rd_T75 x203005 (wrap64 (x9 - 1))).f0).toList then (if ((Op.bytesLess (((rd_T75 x203005 (wrap64 (x9 - 1))).f1).toList) x219001.toList) = true) then (impl_DrvOk.l2 k x137 x138 (wrap64 (x139 + 1)) x203000 x203001 x203002 x203003 x203004 x203005 x203006) else (some false)) else (impl_DrvOk.l2 k x137 x138 (wrap64 (x139 + 1)) x203000 x203001 x203002 x203003 x203004 x203005 x203006))) else (none)) else (none)) else (impl_DrvOk.l2 k x137 x138 (wrap64 (x139 + 1)) x203000 x203001 x203002 x203003 x203004 x203005 x203006))
def impl_DrvOk.l3 : Nat → List ByteArray → Int → Int → Option (Bool)
 | 0, _, _, _ => none
 | k + 1, x183, x184, x185 => if x185 < x184 then (if 0 ≤ x185 then (if x185 < (x183.length : Int) then ((impl_AddressOk.f k (rdOf ByteArray.empty x183 x185)).bind fun t224 => (if t224 = true then (impl_DrvOk.l3 k x183 x184 (wrap64 (x185 + 1))) else (some false))) else (none)) else (none)) else (some true)
end
def impl_DrvOk.f (k : Nat) (a0_0 : ByteArray) (a0_1 : ByteArray) (l0_2 : List ByteArray) (a0_3 : ByteArray) (l0_4 : List (S73)) (l0_5 : List (S75)) (l0_6 : List ByteArray) : Option (Bool) := (impl_NameOk.f k a0_0).bind fun t203 => (if t203 = true then ((impl_plainText.f k a0_1).bind fun t204 => (if t204 = true then (if (l0_2.length : Int) < 1 then (impl_DrvOk.j0 k true a0_0 a0_1 l0_2 a0_3 l0_4 l0_5 l0_6) else (if (l0_2.length : Int) > 5 then (impl_DrvOk.j0 k true a0_0 a0_1 l0_2 a0_3 l0_4 l0_5 l0_6) else ((impl_rising.f k l0_2).bind fun t205 => (if t205 = true then (if (l0_4.length : Int) > 2000 then (impl_DrvOk.j0 k true a0_0 a0_1 l0_2 a0_3 l0_4 l0_5 l0_6) else (if (l0_5.length : Int) > 2000 then (impl_DrvOk.j0 k true a0_0 a0_1 l0_2 a0_3 l0_4 l0_5 l0_6) else (if (l0_6.length : Int) > 2000 then (impl_DrvOk.j0 k true a0_0 a0_1 l0_2 a0_3 l0_4 l0_5 l0_6) else ((impl_rising.f k l0_6).bind fun t206 => (impl_DrvOk.j0 k (!t206) a0_0 a0_1 l0_2 a0_3 l0_4 l0_5 l0_6))))) else (impl_DrvOk.j0 k true a0_0 a0_1 l0_2 a0_3 l0_4 l0_5 l0_6))))) else (impl_DrvOk.j0 k true a0_0 a0_1 l0_2 a0_3 l0_4 l0_5 l0_6))) else (impl_DrvOk.j0 k true a0_0 a0_1 l0_2 a0_3 l0_4 l0_5 l0_6))
theorem impl_DrvOk.mono_l : ∀ k, (∀ y0 y1 y2 y3 y4 y5 y6 y7, LeO (impl_DrvOk.j0 k y0 y1 y2 y3 y4 y5 y6 y7) (impl_DrvOk.j0 (k + 1) y0 y1 y2 y3 y4 y5 y6 y7)) ∧ (∀ y0 y1 y2 y3 y4 y5 y6 y7 y8 y9, LeO (impl_DrvOk.l0 k y0 y1 y2 y3 y4 y5 y6 y7 y8 y9) (impl_DrvOk.l0 (k + 1) y0 y1 y2 y3 y4 y5 y6 y7 y8 y9)) ∧ (∀ y0 y1 y2 y3 y4 y5 y6, LeO (impl_DrvOk.j2 k y0 y1 y2 y3 y4 y5 y6) (impl_DrvOk.j2 (k + 1) y0 y1 y2 y3 y4 y5 y6)) ∧ (∀ y0 y1 y2 y3 y4 y5 y6 y7 y8 y9, LeO (impl_DrvOk.l1 k y0 y1 y2 y3 y4 y5 y6 y7 y8 y9) (impl_DrvOk.l1 (k + 1) y0 y1 y2 y3 y4 y5 y6 y7 y8 y9)) ∧ (∀ y0 y1 y2 y3 y4 y5 y6 y7 y8 y9, LeO (impl_DrvOk.l2 k y0 y1 y2 y3 y4 y5 y6 y7 y8 y9) (impl_DrvOk.l2 (k + 1) y0 y1 y2 y3 y4 y5 y6 y7 y8 y9)) ∧ (∀ y0 y1 y2 y3 y4 y5 y6 y7 y8 y9 y10 y11 y12 y13, LeO (impl_DrvOk.j5 k y0 y1 y2 y3 y4 y5 y6 y7 y8 y9 y10 y11 y12 y13) (impl_DrvOk.j5 (k + 1) y0 y1 y2 y3 y4 y5 y6 y7 y8 y9 y10 y11 y12 y13)) ∧ (∀ y0 y1 y2, LeO (impl_DrvOk.l3 k y0 y1 y2) (impl_DrvOk.l3 (k + 1) y0 y1 y2))
 | 0 => ⟨fun _ _ _ _ _ _ _ _ r h => by simp [impl_DrvOk.j0] at h, fun _ _ _ _ _ _ _ _ _ _ r h => by simp [impl_DrvOk.l0] at h, fun _ _ _ _ _ _ _ r h => by simp [impl_DrvOk.j2] at h, fun _ _ _ _ _ _ _ _ _ _ r h => by simp [impl_DrvOk.l1] at h, fun _ _ _ _ _ _ _ _ _ _ r h => by simp [impl_DrvOk.l2] at h, fun _ _ _ _ _ _ _ _ _ _ _ _ _ _ r h => by simp [impl_DrvOk.j5] at h, fun _ _ _ r h => by simp [impl_DrvOk.l3] at h⟩
 | k + 1 => by
  obtain ⟨ih0, ih1, ih2, ih3, ih4, ih5, ih6⟩ := impl_DrvOk.mono_l k
  refine ⟨?_, ?_, ?_, ?_, ?_, ?_, ?_⟩
  ·intro y0 y1 y2 y3 y4 y5 y6 y7
   unfold impl_DrvOk.j0
   repeat' first
   | (with_reducible exact ih0 _ _ _ _ _ _ _ _)
   | (with_reducible exact ih1 _ _ _ _ _ _ _ _ _ _)
   | (with_reducible exact ih2 _ _ _ _ _ _ _)
   | (with_reducible exact ih3 _ _ _ _ _ _ _ _ _ _)
   | (with_reducible exact ih4 _ _ _ _ _ _ _ _ _ _)
   | (with_reducible exact ih5 _ _ _ _ _ _ _ _ _ _ _ _ _ _)
   | (with_reducible exact ih6 _ _ _)
   | (with_reducible exact impl_AddressOk.mono _ _)
   | (with_reducible exact impl_NameOk.mono _ _)
   | (with_reducible exact impl_ReadWord32.mono _ _)
   | (with_reducible exact impl_plainText.mono _ _)
   | (with_reducible exact impl_rising.mono _ _)
   | (with_reducible exact LeO.refl _)
   | (with_reducible exact LeO.none _)
   | (with_reducible refine LeO.ite ?_ ?_)
   | (with_reducible refine LeO.bind ?_ (fun _ => ?_))
   | exact ih0 _ _ _ _ _ _ _ _
   | exact ih1 _ _ _ _ _ _ _ _ _ _
   | exact ih2 _ _ _ _ _ _ _
   | exact ih3 _ _ _ _ _ _ _ _ _ _
   | exact ih4 _ _ _ _ _ _ _ _ _ _
   | exact ih5 _ _ _ _ _ _ _ _ _ _ _ _ _ _
   | exact ih6 _ _ _
   | exact impl_AddressOk.mono _ _
   | exact impl_NameOk.mono _ _
   | exact impl_ReadWord32.mono _ _
   | exact impl_plainText.mono _ _
   | exact impl_rising.mono _ _
   | exact LeO.none _
   | refine LeO.ite ?_ ?_
   | refine LeO.bind ?_ (fun _ => ?_)
  ·intro y0 y1 y2 y3 y4 y5 y6 y7 y8 y9
   unfold impl_DrvOk.l0
   repeat' first
   | (with_reducible exact ih0 _ _ _ _ _ _ _ _)
   | (with_reducible exact ih1 _ _ _ _ _ _ _ _ _ _)
   | (with_reducible exact ih2 _ _ _ _ _ _ _)
   | (with_reducible exact ih3 _ _ _ _ _ _ _ _ _ _)
   | (with_reducible exact ih4 _ _ _ _ _ _ _ _ _ _)
   | (with_reducible exact ih5 _ _ _ _ _ _ _ _ _ _ _ _ _ _)
   | (with_reducible exact ih6 _ _ _)
   | (with_reducible exact impl_AddressOk.mono _ _)
   | (with_reducible exact impl_NameOk.mono _ _)
   | (with_reducible exact impl_ReadWord32.mono _ _)
   | (with_reducible exact impl_plainText.mono _ _)
   | (with_reducible exact impl_rising.mono _ _)
   | (with_reducible exact LeO.refl _)
   | (with_reducible exact LeO.none _)
   | (with_reducible refine LeO.ite ?_ ?_)
   | (with_reducible refine LeO.bind ?_ (fun _ => ?_))
   | exact ih0 _ _ _ _ _ _ _ _
   | exact ih1 _ _ _ _ _ _ _ _ _ _
   | exact ih2 _ _ _ _ _ _ _
   | exact ih3 _ _ _ _ _ _ _ _ _ _
   | exact ih4 _ _ _ _ _ _ _ _ _ _
   | exact ih5 _ _ _ _ _ _ _ _ _ _ _ _ _ _
   | exact ih6 _ _ _
   | exact impl_AddressOk.mono _ _
   | exact impl_NameOk.mono _ _
   | exact impl_ReadWord32.mono _ _
   | exact impl_plainText.mono _ _
   | exact impl_rising.mono _ _
   | exact LeO.none _
   | refine LeO.ite ?_ ?_
   | refine LeO.bind ?_ (fun _ => ?_)
  ·intro y0 y1 y2 y3 y4 y5 y6
   unfold impl_DrvOk.j2
   repeat' first
   | (with_reducible exact ih0 _ _ _ _ _ _ _ _)
   | (with_reducible exact ih1 _ _ _ _ _ _ _ _ _ _)
   | (with_reducible exact ih2 _ _ _ _ _ _ _)
   | (with_reducible exact ih3 _ _ _ _ _ _ _ _ _ _)
   | (with_reducible exact ih4 _ _ _ _ _ _ _ _ _ _)
   | (with_reducible exact ih5 _ _ _ _ _ _ _ _ _ _ _ _ _ _)
   | (with_reducible exact ih6 _ _ _)
   | (with_reducible exact impl_AddressOk.mono _ _)
   | (with_reducible exact impl_NameOk.mono _ _)
   | (with_reducible exact impl_ReadWord32.mono _ _)
   | (with_reducible exact impl_plainText.mono _ _)
   | (with_reducible exact impl_rising.mono _ _)
   | (with_reducible exact LeO.refl _)
   | (with_reducible exact LeO.none _)
   | (with_reducible refine LeO.ite ?_ ?_)
   | (with_reducible refine LeO.bind ?_ (fun _ => ?_))
   | exact ih0 _ _ _ _ _ _ _ _
   | exact ih1 _ _ _ _ _ _ _ _ _ _
   | exact ih2 _ _ _ _ _ _ _
   | exact ih3 _ _ _ _ _ _ _ _ _ _
   | exact ih4 _ _ _ _ _ _ _ _ _ _
   | exact ih5 _ _ _ _ _ _ _ _ _ _ _ _ _ _
   | exact ih6 _ _ _
   | exact impl_AddressOk.mono _ _
   | exact impl_NameOk.mono _ _
   | exact impl_ReadWord32.mono _ _
   | exact impl_plainText.mono _ _
   | exact impl_rising.mono _ _
   | exact LeO.none _
   | refine LeO.ite ?_ ?_
   | refine LeO.bind ?_ (fun _ => ?_)
  ·intro y0 y1 y2 y3 y4 y5 y6 y7 y8 y9
   unfold impl_DrvOk.l1
   repeat' first
   | (with_reducible exact ih0 _ _ _ _ _ _ _ _)
   | (with_reducible exact ih1 _ _ _ _ _ _ _ _ _ _)
   | (with_reducible exact ih2 _ _ _ _ _ _ _)
   | (with_reducible exact ih3 _ _ _ _ _ _ _ _ _ _)
   | (with_reducible exact ih4 _ _ _ _ _ _ _ _ _ _)
   | (with_reducible exact ih5 _ _ _ _ _ _ _ _ _ _ _ _ _ _)
   | (with_reducible exact ih6 _ _ _)
   | (with_reducible exact impl_AddressOk.mono _ _)
   | (with_reducible exact impl_NameOk.mono _ _)
   | (with_reducible exact impl_ReadWord32.mono _ _)
   | (with_reducible exact impl_plainText.mono _ _)
   | (with_reducible exact impl_rising.mono _ _)
   | (with_reducible exact LeO.refl _)
   | (with_reducible exact LeO.none _)
   | (with_reducible refine LeO.ite ?_ ?_)
   | (with_reducible refine LeO.bind ?_ (fun _ => ?_))
   | exact ih0 _ _ _ _ _ _ _ _
   | exact ih1 _ _ _ _ _ _ _ _ _ _
   | exact ih2 _ _ _ _ _ _ _
   | exact ih3 _ _ _ _ _ _ _ _ _ _
   | exact ih4 _ _ _ _ _ _ _ _ _ _
   | exact ih5 _ _ _ _ _ _ _ _ _ _ _ _ _ _
   | exact ih6 _ _ _
   | exact impl_AddressOk.mono _ _
   | exact impl_NameOk.mono _ _
   | exact impl_ReadWord32.mono _ _
   | exact impl_plainText.mono _ _
   | exact impl_rising.mono _ _
   | exact LeO.none _
   | refine LeO.ite ?_ ?_
   | refine LeO.bind ?_ (fun _ => ?_)
  ·intro y0 y1 y2 y3 y4 y5 y6 y7 y8 y9
   unfold impl_DrvOk.l2
   repeat' first
   | (with_reducible exact ih0 _ _ _ _ _ _ _ _)
   | (with_reducible exact ih1 _ _ _ _ _ _ _ _ _ _)
   | (with_reducible exact ih2 _ _ _ _ _ _ _)
   | (with_reducible exact ih3 _ _ _ _ _ _ _ _ _ _)
   | (with_reducible exact ih4 _ _ _ _ _ _ _ _ _ _)
   | (with_reducible exact ih5 _ _ _ _ _ _ _ _ _ _ _ _ _ _)
   | (with_reducible exact ih6 _ _ _)
   | (with_reducible exact impl_AddressOk.mono _ _)
   | (with_reducible exact impl_NameOk.mono _ _)
   | (with_reducible exact impl_ReadWord32.mono _ _)
   | (with_reducible exact impl_plainText.mono _ _)
   | (with_reducible exact impl_rising.mono _ _)
   | (with_reducible exact LeO.refl _)
   | (with_reducible exact LeO.none _)
   | (with_reducible refine LeO.ite ?_ ?_)
   | (with_reducible refine LeO.bind ?_ (fun _ => ?_))
   | exact ih0 _ _ _ _ _ _ _ _
   | exact ih1 _ _ _ _ _ _ _ _ _ _
   | exact ih2 _ _ _ _ _ _ _
   | exact ih3 _ _ _ _ _ _ _ _ _ _
   | exact ih4 _ _ _ _ _ _ _ _ _ _
   | exact ih5 _ _ _ _ _ _ _ _ _ _ _ _ _ _
   | exact ih6 _ _ _
   | exact impl_AddressOk.mono _ _
   | exact impl_NameOk.mono _ _
   | exact impl_ReadWord32.mono _ _
   | exact impl_plainText.mono _ _
   | exact impl_rising.mono _ _
   | exact LeO.none _
   | refine LeO.ite ?_ ?_
   | refine LeO.bind ?_ (fun _ => ?_)
  ·intro y0 y1 y2 y3 y4 y5 y6 y7 y8 y9 y10 y11 y12 y13
   unfold impl_DrvOk.j5
   repeat' first
   | (with_reducible exact ih0 _ _ _ _ _ _ _ _)
   | (with_reducible exact ih1 _ _ _ _ _ _ _ _ _ _)
   | (with_reducible exact ih2 _ _ _ _ _ _ _)
   | (with_reducible exact ih3 _ _ _ _ _ _ _ _ _ _)
   | (with_reducible exact ih4 _ _ _ _ _ _ _ _ _ _)
   | (with_reducible exact ih5 _ _ _ _ _ _ _ _ _ _ _ _ _ _)
   | (with_reducible exact ih6 _ _ _)
   | (with_reducible exact impl_AddressOk.mono _ _)
   | (with_reducible exact impl_NameOk.mono _ _)
   | (with_reducible exact impl_ReadWord32.mono _ _)
   | (with_reducible exact impl_plainText.mono _ _)
   | (with_reducible exact impl_rising.mono _ _)
   | (with_reducible exact LeO.refl _)
   | (with_reducible exact LeO.none _)
   | (with_reducible refine LeO.ite ?_ ?_)
   | (with_reducible refine LeO.bind ?_ (fun _ => ?_))
   | exact ih0 _ _ _ _ _ _ _ _
   | exact ih1 _ _ _ _ _ _ _ _ _ _
   | exact ih2 _ _ _ _ _ _ _
   | exact ih3 _ _ _ _ _ _ _ _ _ _
   | exact ih4 _ _ _ _ _ _ _ _ _ _
   | exact ih5 _ _ _ _ _ _ _ _ _ _ _ _ _ _
   | exact ih6 _ _ _
   | exact impl_AddressOk.mono _ _
   | exact impl_NameOk.mono _ _
   | exact impl_ReadWord32.mono _ _
   | exact impl_plainText.mono _ _
   | exact impl_rising.mono _ _
   | exact LeO.none _
   | refine LeO.ite ?_ ?_
   | refine LeO.bind ?_ (fun _ => ?_)
  ·intro y0 y1 y2
   unfold impl_DrvOk.l3
   repeat' first
   | (with_reducible exact ih0 _ _ _ _ _ _ _ _)
   | (with_reducible exact ih1 _ _ _ _ _ _ _ _ _ _)
   | (with_reducible exact ih2 _ _ _ _ _ _ _)
   | (with_reducible exact ih3 _ _ _ _ _ _ _ _ _ _)
   | (with_reducible exact ih4 _ _ _ _ _ _ _ _ _ _)
   | (with_reducible exact ih5 _ _ _ _ _ _ _ _ _ _ _ _ _ _)
   | (with_reducible exact ih6 _ _ _)
   | (with_reducible exact impl_AddressOk.mono _ _)
   | (with_reducible exact impl_NameOk.mono _ _)
   | (with_reducible exact impl_ReadWord32.mono _ _)
   | (with_reducible exact impl_plainText.mono _ _)
   | (with_reducible exact impl_rising.mono _ _)
   | (with_reducible exact LeO.refl _)
   | (with_reducible exact LeO.none _)
   | (with_reducible refine LeO.ite ?_ ?_)
   | (with_reducible refine LeO.bind ?_ (fun _ => ?_))
   | exact ih0 _ _ _ _ _ _ _ _
   | exact ih1 _ _ _ _ _ _ _ _ _ _
   | exact ih2 _ _ _ _ _ _ _
   | exact ih3 _ _ _ _ _ _ _ _ _ _
   | exact ih4 _ _ _ _ _ _ _ _ _ _
   | exact ih5 _ _ _ _ _ _ _ _ _ _ _ _ _ _
   | exact ih6 _ _ _
   | exact impl_AddressOk.mono _ _
   | exact impl_NameOk.mono _ _
   | exact impl_ReadWord32.mono _ _
   | exact impl_plainText.mono _ _
   | exact impl_rising.mono _ _
   | exact LeO.none _
   | refine LeO.ite ?_ ?_
   | refine LeO.bind ?_ (fun _ => ?_)
theorem impl_DrvOk.mono : ∀ a0 a1 a2 a3 a4 a5 a6 k, LeO (impl_DrvOk.f k a0 a1 a2 a3 a4 a5 a6) (impl_DrvOk.f (k + 1) a0 a1 a2 a3 a4 a5 a6) := by
 intro a0 a1 a2 a3 a4 a5 a6 k
 obtain ⟨ih0, ih1, ih2, ih3, ih4, ih5, ih6⟩ := impl_DrvOk.mono_l k
 unfold impl_DrvOk.f
 repeat' first
   | (with_reducible exact ih0 _ _ _ _ _ _ _ _)
   | (with_reducible exact ih1 _ _ _ _ _ _ _ _ _ _)
   | (with_reducible exact ih2 _ _ _ _ _ _ _)
   | (with_reducible exact ih3 _ _ _ _ _ _ _ _ _ _)
   | (with_reducible exact ih4 _ _ _ _ _ _ _ _ _ _)
   | (with_reducible exact ih5 _ _ _ _ _ _ _ _ _ _ _ _ _ _)
   | (with_reducible exact ih6 _ _ _)
   | (with_reducible exact impl_AddressOk.mono _ _)
   | (with_reducible exact impl_NameOk.mono _ _)
   | (with_reducible exact impl_ReadWord32.mono _ _)
   | (with_reducible exact impl_plainText.mono _ _)
   | (with_reducible exact impl_rising.mono _ _)
   | (with_reducible exact LeO.refl _)
   | (with_reducible exact LeO.none _)
   | (with_reducible refine LeO.ite ?_ ?_)
   | (with_reducible refine LeO.bind ?_ (fun _ => ?_))
   | exact ih0 _ _ _ _ _ _ _ _
   | exact ih1 _ _ _ _ _ _ _ _ _ _
   | exact ih2 _ _ _ _ _ _ _
   | exact ih3 _ _ _ _ _ _ _ _ _ _
   | exact ih4 _ _ _ _ _ _ _ _ _ _
   | exact ih5 _ _ _ _ _ _ _ _ _ _ _ _ _ _
   | exact ih6 _ _ _
   | exact impl_AddressOk.mono _ _
   | exact impl_NameOk.mono _ _
   | exact impl_ReadWord32.mono _ _
   | exact impl_plainText.mono _ _
   | exact impl_rising.mono _ _
   | exact LeO.none _
   | refine LeO.ite ?_ ?_
   | refine LeO.bind ?_ (fun _ => ?_)
set_option maxHeartbeats 8000000 in
set_option maxRecDepth 100000 in
theorem impl_DrvOk.calls (k : Nat) (a0_0 : ByteArray) (a0_1 : ByteArray) (A0_2 : Option Addr) (c0_2 : Nat) (l0_2 : List ByteArray) (a0_3 : ByteArray) (A0_4 : Option Addr) (c0_4 : Nat) (l0_4 : List (S73)) (A0_5 : Option Addr) (c0_5 : Nat) (l0_5 : List (S75)) (A0_6 : Option Addr) (c0_6 : Nat) (l0_6 : List ByteArray) (r : Bool) (w : World) (hr0_2 : Kd.C Kd.string w A0_2 l0_2.length l0_2) (hc0_2 : l0_2.length ≤ c0_2) (hr0_4 : Kd.C k73 w A0_4 l0_4.length l0_4) (hc0_4 : l0_4.length ≤ c0_4) (hr0_5 : Kd.C k75 w A0_5 l0_5.length l0_5) (hc0_5 : l0_5.length ≤ c0_5) (hr0_6 : Kd.C Kd.string w A0_6 l0_6.length l0_6) (hc0_6 : l0_6.length ≤ c0_6) (h : impl_DrvOk.f k a0_0 a0_1 l0_2 a0_3 l0_4 l0_5 l0_6 = some r) :
  Calls Try.prog 28 #[.agg #[.string a0_0, .string a0_1, .slice A0_2 l0_2.length c0_2, .string a0_3, .slice A0_4 l0_4.length c0_4, .slice A0_5 l0_5.length c0_5, .slice A0_6 l0_6.length c0_6]] w fun e w' => e = .returned (.bool r) ∧ Below w.heap.size w w' := by
 have hu48 := Try.underlying48
 have hu73 := Try.underlying73
 have hu75 := Try.underlying75
 have HR0_2 := Aside0.mk hr0_2
 have HC0_2 := Aside0.mk hc0_2
 clear hr0_2 hc0_2
 have HR0_4 := Aside0.mk hr0_4
 have HC0_4 := Aside0.mk hc0_4
 clear hr0_4 hc0_4
 have HR0_5 := Aside0.mk hr0_5
 have HC0_5 := Aside0.mk hc0_5
 clear hr0_5 hc0_5
 have HR0_6 := Aside0.mk hr0_6
 have HC0_6 := Aside0.mk hc0_6
 clear hr0_6 hc0_6
 have HB := Aside0.mk (Below.refl w.heap.size w)
 have H : ((impl_NameOk.f k a0_0).bind fun t203 => (if t203 = true then ((impl_plainText.f k a0_1).bind fun t204 => (if t204 = true then (if (l0_2.length : Int) < 1 then (impl_DrvOk.j0 k true a0_0 a0_1 l0_2 a0_3 l0_4 l0_5 l0_6) else (if (l0_2.length : Int) > 5 then (impl_DrvOk.j0 k true a0_0 a0_1 l0_2 a0_3 l0_4 l0_5 l0_6) else ((impl_rising.f k l0_2).bind fun t205 => (if t205 = true then (if (l0_4.length : Int) > 2000 then (impl_DrvOk.j0 k true a0_0 a0_1 l0_2 a0_3 l0_4 l0_5 l0_6) else (if (l0_5.length : Int) > 2000 then (impl_DrvOk.j0 k true a0_0 a0_1 l0_2 a0_3 l0_4 l0_5 l0_6) else (if (l0_6.length : Int) > 2000 then (impl_DrvOk.j0 k true a0_0 a0_1 l0_2 a0_3 l0_4 l0_5 l0_6) else ((impl_rising.f k l0_6).bind fun t206 => (impl_DrvOk.j0 k (!t206) a0_0 a0_1 l0_2 a0_3 l0_4 l0_5 l0_6))))) else (impl_DrvOk.j0 k true a0_0 a0_1 l0_2 a0_3 l0_4 l0_5 l0_6))))) else (impl_DrvOk.j0 k true a0_0 a0_1 l0_2 a0_3 l0_4 l0_5 l0_6))) else (impl_DrvOk.j0 k true a0_0 a0_1 l0_2 a0_3 l0_4 l0_5 l0_6))) = some r := h
 clear h
 have HC2 := Aside0.mk H
 clear H
 go_enter Try.func28, Try.ntmps28
 go_upto_region 1 with (first | ((with_reducible refine gate_dst (N := 1) rfl ?_); (try (refine gate_guard (by rfl) ?_; dsimp only)); refine box_event ?hg (N := 1) ?hd (cs := #[.string a0_0, .string a0_1, .slice A0_2 l0_2.length c0_2, .string a0_3, .slice A0_4 l0_4.length c0_4, .slice A0_5 l0_5.length c0_5, .slice A0_6 l0_6.length c0_6]) (t := 48) ?hr ?_; (case hd => rfl); (case hg => rfl); (case hr => first | (go_simp; done) | (go_simp; rfl)); intro gb202 hg w3 hbox hb; have n0_ := Aside0.mk (below_step qB hb); have n1_ := Aside0.mk (hbox); have n2_ := Aside0.mk ((by rw [hg]; exact (below_size qB) : w.heap.size ≤ gb202)); have n3_ := Aside0.mk ((by rw [hg]; exact (below_size qB) : w.heap.size ≤ gb202)); clear HB; have HB := n0_; have BK202 := n1_; have GW202 := n2_; have GE202 := n3_; clear n0_ n1_ n2_ n3_; clear hb hbox hg))
 repeat (go_quiet (first | ((with_reducible refine gate_dst (N := 1) rfl ?_); (try (refine gate_guard (by rfl) ?_; dsimp only)); refine box_event ?hg (N := 1) ?hd (cs := #[.string a0_0, .string a0_1, .slice A0_2 l0_2.length c0_2, .string a0_3, .slice A0_4 l0_4.length c0_4, .slice A0_5 l0_5.length c0_5, .slice A0_6 l0_6.length c0_6]) (t := 48) ?hr ?_; (case hd => rfl); (case hg => rfl); (case hr => first | (go_simp; done) | (go_simp; rfl)); intro gb202 hg w3 hbox hb; have n0_ := Aside0.mk (below_step qB hb); have n1_ := Aside0.mk (hbox); have n2_ := Aside0.mk ((by rw [hg]; exact (below_size qB) : w.heap.size ≤ gb202)); have n3_ := Aside0.mk ((by rw [hg]; exact (below_size qB) : w.heap.size ≤ gb202)); clear HB; have HB := n0_; have BK202 := n1_; have GW202 := n2_; have GE202 := n3_; clear n0_ n1_ n2_ n3_; clear hb hbox hg)); go_upto_region 1 with (first | ((with_reducible refine gate_dst (N := 1) rfl ?_); (try (refine gate_guard (by rfl) ?_; dsimp only)); refine box_event ?hg (N := 1) ?hd (cs := #[.string a0_0, .string a0_1, .slice A0_2 l0_2.length c0_2, .string a0_3, .slice A0_4 l0_4.length c0_4, .slice A0_5 l0_5.length c0_5, .slice A0_6 l0_6.length c0_6]) (t := 48) ?hr ?_; (case hd => rfl); (case hg => rfl); (case hr => first | (go_simp; done) | (go_simp; rfl)); intro gb202 hg w3 hbox hb; have n0_ := Aside0.mk (below_step qB hb); have n1_ := Aside0.mk (hbox); have n2_ := Aside0.mk ((by rw [hg]; exact (below_size qB) : w.heap.size ≤ gb202)); have n3_ := Aside0.mk ((by rw [hg]; exact (below_size qB) : w.heap.size ≤ gb202)); clear HB; have HB := n0_; have BK202 := n1_; have GW202 := n2_; have GE202 := n3_; clear n0_ n1_ n2_ n3_; clear hb hbox hg)))
 (try simp only [Act.put, List.setIfInBounds_toArray, List.set_cons_zero, List.set_cons_succ])
 go_cut [65] (fun v65 wc => ∃ (kq : Nat) (x65_1 : Bool), v65 = .bool x65_1 ∧ Aside0 (impl_DrvOk.j0 kq x65_1 a0_0 a0_1 l0_2 a0_3 l0_4 l0_5 l0_6 = some r) ∧ Aside0 (kq ≤ k) ∧ Aside0 (wc.heap[gb202]? = some (.cells #[.string a0_0, .string a0_1, (.slice A0_2 l0_2.length c0_2), .string a0_3, (.slice A0_4 l0_4.length c0_4), (.slice A0_5 l0_5.length c0_5), (.slice A0_6 l0_6.length c0_6)] 48 (0, 0))) ∧ Aside0 (Below w.heap.size w wc))
 case first =>
  have H := HC2.out
  clear HC2
  replace H := Option.bind_eq_some_iff.mp H
  obtain ⟨t203, A40, H⟩ := H
  replace H : (if t203 = true then ((impl_plainText.f k a0_1).bind fun t204 => (if t204 = true then (if (l0_2.length : Int) < 1 then (impl_DrvOk.j0 k true a0_0 a0_1 l0_2 a0_3 l0_4 l0_5 l0_6) else (if (l0_2.length : Int) > 5 then (impl_DrvOk.j0 k true a0_0 a0_1 l0_2 a0_3 l0_4 l0_5 l0_6) else ((impl_rising.f k l0_2).bind fun t205 => (if t205 = true then (if (l0_4.length : Int) > 2000 then (impl_DrvOk.j0 k true a0_0 a0_1 l0_2 a0_3 l0_4 l0_5 l0_6) else (if (l0_5.length : Int) > 2000 then (impl_DrvOk.j0 k true a0_0 a0_1 l0_2 a0_3 l0_4 l0_5 l0_6) else (if (l0_6.length : Int) > 2000 then (impl_DrvOk.j0 k true a0_0 a0_1 l0_2 a0_3 l0_4 l0_5 l0_6) else ((impl_rising.f k l0_6).bind fun t206 => (impl_DrvOk.j0 k (!t206) a0_0 a0_1 l0_2 a0_3 l0_4 l0_5 l0_6))))) else (impl_DrvOk.j0 k true a0_0 a0_1 l0_2 a0_3 l0_4 l0_5 l0_6))))) else (impl_DrvOk.j0 k true a0_0 a0_1 l0_2 a0_3 l0_4 l0_5 l0_6))) else (impl_DrvOk.j0 k true a0_0 a0_1 l0_2 a0_3 l0_4 l0_5 l0_6)) = some r := H
  have A4 := Aside0.mk A40
  clear A40
  by_cases c5 : t203 = true
  ·subst c5
   have H1 : ((impl_plainText.f k a0_1).bind fun t204 => (if t204 = true then (if (l0_2.length : Int) < 1 then (impl_DrvOk.j0 k true a0_0 a0_1 l0_2 a0_3 l0_4 l0_5 l0_6) else (if (l0_2.length : Int) > 5 then (impl_DrvOk.j0 k true a0_0 a0_1 l0_2 a0_3 l0_4 l0_5 l0_6) else ((impl_rising.f k l0_2).bind fun t205 => (if t205 = true then (if (l0_4.length : Int) > 2000 then (impl_DrvOk.j0 k true a0_0 a0_1 l0_2 a0_3 l0_4 l0_5 l0_6) else (if (l0_5.length : Int) > 2000 then (impl_DrvOk.j0 k true a0_0 a0_1 l0_2 a0_3 l0_4 l0_5 l0_6) else (if (l0_6.length : Int) > 2000 then (impl_DrvOk.j0 k true a0_0 a0_1 l0_2 a0_3 l0_4 l0_5 l0_6) else ((impl_rising.f k l0_6).bind fun t206 => (impl_DrvOk.j0 k (!t206) a0_0 a0_1 l0_2 a0_3 l0_4 l0_5 l0_6))))) else (impl_DrvOk.j0 k true a0_0 a0_1 l0_2 a0_3 l0_4 l0_5 l0_6))))) else (impl_DrvOk.j0 k true a0_0 a0_1 l0_2 a0_3 l0_4 l0_5 l0_6))) = some r := by rw [if_pos rfl] at H; exact H
   clear H
   have H := H1
   clear H1
   replace H := Option.bind_eq_some_iff.mp H
   obtain ⟨t204, A60, H⟩ := H
   replace H : (if t204 = true then (if (l0_2.length : Int) < 1 then (impl_DrvOk.j0 k true a0_0 a0_1 l0_2 a0_3 l0_4 l0_5 l0_6) else (if (l0_2.length : Int) > 5 then (impl_DrvOk.j0 k true a0_0 a0_1 l0_2 a0_3 l0_4 l0_5 l0_6) else ((impl_rising.f k l0_2).bind fun t205 => (if t205 = true then (if (l0_4.length : Int) > 2000 then (impl_DrvOk.j0 k true a0_0 a0_1 l0_2 a0_3 l0_4 l0_5 l0_6) else (if (l0_5.length : Int) > 2000 then (impl_DrvOk.j0 k true a0_0 a0_1 l0_2 a0_3 l0_4 l0_5 l0_6) else (if (l0_6.length : Int) > 2000 then (impl_DrvOk.j0 k true a0_0 a0_1 l0_2 a0_3 l0_4 l0_5 l0_6) else ((impl_rising.f k l0_6).bind fun t206 => (impl_DrvOk.j0 k (!t206) a0_0 a0_1 l0_2 a0_3 l0_4 l0_5 l0_6))))) else (impl_DrvOk.j0 k true a0_0 a0_1 l0_2 a0_3 l0_4 l0_5 l0_6))))) else (impl_DrvOk.j0 k true a0_0 a0_1 l0_2 a0_3 l0_4 l0_5 l0_6)) = some r := H
   have A6 := Aside0.mk A60
   clear A60
   by_cases c7 : t204 = true
   ·subst c7
    have H1 : (if (l0_2.length : Int) < 1 then (impl_DrvOk.j0 k true a0_0 a0_1 l0_2 a0_3 l0_4 l0_5 l0_6) else (if (l0_2.length : Int) > 5 then (impl_DrvOk.j0 k true a0_0 a0_1 l0_2 a0_3 l0_4 l0_5 l0_6) else ((impl_rising.f k l0_2).bind fun t205 => (if t205 = true then (if (l0_4.length : Int) > 2000 then (impl_DrvOk.j0 k true a0_0 a0_1 l0_2 a0_3 l0_4 l0_5 l0_6) else (if (l0_5.length : Int) > 2000 then (impl_DrvOk.j0 k true a0_0 a0_1 l0_2 a0_3 l0_4 l0_5 l0_6) else (if (l0_6.length : Int) > 2000 then (impl_DrvOk.j0 k true a0_0 a0_1 l0_2 a0_3 l0_4 l0_5 l0_6) else ((impl_rising.f k l0_6).bind fun t206 => (impl_DrvOk.j0 k (!t206) a0_0 a0_1 l0_2 a0_3 l0_4 l0_5 l0_6))))) else (impl_DrvOk.j0 k true a0_0 a0_1 l0_2 a0_3 l0_4 l0_5 l0_6))))) = some r := by rw [if_pos rfl] at H; exact H
    clear H
    have H := H1
    clear H1
    by_cases c8 : (l0_2.length : Int) < 1
    ·rw [if_pos c8] at H
     have c8b0 : decide ((l0_2.length : Int) < 1) = true := decide_eq_true c8
     have c8b1 : decide (l0_2.length < 1) = true := decide_eq_true (by omega)
     clear c8
     (first | rw [c8b0] | (simp only [i64_w, i32_w]; rw [c8b0]) | skip)
     have H' := Aside0.mk H
     clear H
     have hcz9_0 : w3.cell? ⟨gb202, 0, none⟩ = some (.string a0_0) := (blk_cell BK202.out 0).trans rfl
     have hcz9_1 : w3.cell? ⟨gb202, 1, none⟩ = some (.string a0_1) := (blk_cell BK202.out 1).trans rfl
     have hcz9_2 : w3.cell? ⟨gb202, 2, none⟩ = some (.slice A0_2 l0_2.length c0_2) := (blk_cell BK202.out 2).trans rfl
     have hcz9_3 : w3.cell? ⟨gb202, 3, none⟩ = some (.string a0_3) := (blk_cell BK202.out 3).trans rfl
     have hcz9_4 : w3.cell? ⟨gb202, 4, none⟩ = some (.slice A0_4 l0_4.length c0_4) := (blk_cell BK202.out 4).trans rfl
     have hcz9_5 : w3.cell? ⟨gb202, 5, none⟩ = some (.slice A0_5 l0_5.length c0_5) := (blk_cell BK202.out 5).trans rfl
     have hcz9_6 : w3.cell? ⟨gb202, 6, none⟩ = some (.slice A0_6 l0_6.length c0_6) := (blk_cell BK202.out 6).trans rfl
     have hfz9_0 := blk_frozen BK202.out 0
     have hfz9_1 := blk_frozen BK202.out 1
     have hfz9_2 := blk_frozen BK202.out 2
     have hfz9_3 := blk_frozen BK202.out 3
     have hfz9_4 := blk_frozen BK202.out 4
     have hfz9_5 := blk_frozen BK202.out 5
     have hfz9_6 := blk_frozen BK202.out 6
     go_wp2_with (first | (go_at_call 30; (with_reducible refine (impl_NameOk.calls k a0_0 true _ A4.out).mono ?_); rintro e w' ⟨rfl, ⟨nd, rfl⟩⟩; (try exact qD)) | (go_at_call 54; (with_reducible refine (impl_plainText.calls k a0_1 true _ A6.out).mono ?_); rintro e w' ⟨rfl, ⟨nd, rfl⟩⟩; (try exact qD)))
     repeat (go_quiet (first | (go_at_call 30; (with_reducible refine (impl_NameOk.calls k a0_0 true _ A4.out).mono ?_); rintro e w' ⟨rfl, ⟨nd, rfl⟩⟩; (try exact qD)) | (go_at_call 54; (with_reducible refine (impl_plainText.calls k a0_1 true _ A6.out).mono ?_); rintro e w' ⟨rfl, ⟨nd, rfl⟩⟩; (try exact qD))); try go_wp2_with (first | (go_at_call 30; (with_reducible refine (impl_NameOk.calls k a0_0 true _ A4.out).mono ?_); rintro e w' ⟨rfl, ⟨nd, rfl⟩⟩; (try exact qD)) | (go_at_call 54; (with_reducible refine (impl_plainText.calls k a0_1 true _ A6.out).mono ?_); rintro e w' ⟨rfl, ⟨nd, rfl⟩⟩; (try exact qD))))
     go_meet
     case rel => exact ⟨_, (true), (by first | rfl | (simp; done) | (simp [*]; done)), H', ⟨by first | omega | exact Nat.le_refl _⟩, ⟨by (with_reducible repeat (first | refine blk_drewN ?_ _ | refine blk_drew ?_ | refine blk_alloc ?_ _)); exact BK202.out⟩, ⟨by repeat (first | (with_reducible first | exact HB.out | apply below_alloc | apply pw_below_drewN | apply below_drew1 | refine below_set ?_ GE202.out) | exact HB.out)⟩⟩
    ·rw [if_neg c8] at H
     have c8b0 : decide ((l0_2.length : Int) < 1) = false := decide_eq_false c8
     have c8b1 : decide (l0_2.length < 1) = false := decide_eq_false (by omega)
     clear c8
     (first | rw [c8b0] | (simp only [i64_w, i32_w]; rw [c8b0]) | skip)
     by_cases c10 : (l0_2.length : Int) > 5
     ·rw [if_pos c10] at H
      have c10b0 : decide (5 < (l0_2.length : Int)) = true := decide_eq_true c10
      have c10b1 : decide (5 < l0_2.length) = true := decide_eq_true (by omega)
      clear c10
      have H' := Aside0.mk H
      clear H
      have hcz11_0 : w3.cell? ⟨gb202, 0, none⟩ = some (.string a0_0) := (blk_cell BK202.out 0).trans rfl
      have hcz11_1 : w3.cell? ⟨gb202, 1, none⟩ = some (.string a0_1) := (blk_cell BK202.out 1).trans rfl
      have hcz11_2 : w3.cell? ⟨gb202, 2, none⟩ = some (.slice A0_2 l0_2.length c0_2) := (blk_cell BK202.out 2).trans rfl
      have hcz11_3 : w3.cell? ⟨gb202, 3, none⟩ = some (.string a0_3) := (blk_cell BK202.out 3).trans rfl
      have hcz11_4 : w3.cell? ⟨gb202, 4, none⟩ = some (.slice A0_4 l0_4.length c0_4) := (blk_cell BK202.out 4).trans rfl
      have hcz11_5 : w3.cell? ⟨gb202, 5, none⟩ = some (.slice A0_5 l0_5.length c0_5) := (blk_cell BK202.out 5).trans rfl
      have hcz11_6 : w3.cell? ⟨gb202, 6, none⟩ = some (.slice A0_6 l0_6.length c0_6) := (blk_cell BK202.out 6).trans rfl
      have hfz11_0 := blk_frozen BK202.out 0
      have hfz11_1 := blk_frozen BK202.out 1
      have hfz11_2 := blk_frozen BK202.out 2
      have hfz11_3 := blk_frozen BK202.out 3
      have hfz11_4 := blk_frozen BK202.out 4
      have hfz11_5 := blk_frozen BK202.out 5
      have hfz11_6 := blk_frozen BK202.out 6
      go_wp2_with (first | (go_at_call 30; (with_reducible refine (impl_NameOk.calls k a0_0 true _ A4.out).mono ?_); rintro e w' ⟨rfl, ⟨nd, rfl⟩⟩; (try exact qD)) | (go_at_call 54; (with_reducible refine (impl_plainText.calls k a0_1 true _ A6.out).mono ?_); rintro e w' ⟨rfl, ⟨nd, rfl⟩⟩; (try exact qD)))
      repeat (go_quiet (first | (go_at_call 30; (with_reducible refine (impl_NameOk.calls k a0_0 true _ A4.out).mono ?_); rintro e w' ⟨rfl, ⟨nd, rfl⟩⟩; (try exact qD)) | (go_at_call 54; (with_reducible refine (impl_plainText.calls k a0_1 true _ A6.out).mono ?_); rintro e w' ⟨rfl, ⟨nd, rfl⟩⟩; (try exact qD))); try go_wp2_with (first | (go_at_call 30; (with_reducible refine (impl_NameOk.calls k a0_0 true _ A4.out).mono ?_); rintro e w' ⟨rfl, ⟨nd, rfl⟩⟩; (try exact qD)) | (go_at_call 54; (with_reducible refine (impl_plainText.calls k a0_1 true _ A6.out).mono ?_); rintro e w' ⟨rfl, ⟨nd, rfl⟩⟩; (try exact qD))))
      go_meet
      case rel => exact ⟨_, (true), (by first | rfl | (simp; done) | (simp [*]; done)), H', ⟨by first | omega | exact Nat.le_refl _⟩, ⟨by (with_reducible repeat (first | refine blk_drewN ?_ _ | refine blk_drew ?_ | refine blk_alloc ?_ _)); exact BK202.out⟩, ⟨by repeat (first | (with_reducible first | exact HB.out | apply below_alloc | apply pw_below_drewN | apply below_drew1 | refine below_set ?_ GE202.out) | exact HB.out)⟩⟩
     ·rw [if_neg c10] at H
      have c10b0 : decide (5 < (l0_2.length : Int)) = false := decide_eq_false c10
      have c10b1 : decide (5 < l0_2.length) = false := decide_eq_false (by omega)
      clear c10
      replace H := Option.bind_eq_some_iff.mp H
      obtain ⟨t205, A120, H⟩ := H
      replace H : (if t205 = true then (if (l0_4.length : Int) > 2000 then (impl_DrvOk.j0 k true a0_0 a0_1 l0_2 a0_3 l0_4 l0_5 l0_6) else (if (l0_5.length : Int) > 2000 then (impl_DrvOk.j0 k true a0_0 a0_1 l0_2 a0_3 l0_4 l0_5 l0_6) else (if (l0_6.length : Int) > 2000 then (impl_DrvOk.j0 k true a0_0 a0_1 l0_2 a0_3 l0_4 l0_5 l0_6) else ((impl_rising.f k l0_6).bind fun t206 => (impl_DrvOk.j0 k (!t206) a0_0 a0_1 l0_2 a0_3 l0_4 l0_5 l0_6))))) else (impl_DrvOk.j0 k true a0_0 a0_1 l0_2 a0_3 l0_4 l0_5 l0_6)) = some r := H
      have A12 := Aside0.mk A120
      clear A120
      by_cases c13 : t205 = true
      ·subst c13
       have H1 : (if (l0_4.length : Int) > 2000 then (impl_DrvOk.j0 k true a0_0 a0_1 l0_2 a0_3 l0_4 l0_5 l0_6) else (if (l0_5.length : Int) > 2000 then (impl_DrvOk.j0 k true a0_0 a0_1 l0_2 a0_3 l0_4 l0_5 l0_6) else (if (l0_6.length : Int) > 2000 then (impl_DrvOk.j0 k true a0_0 a0_1 l0_2 a0_3 l0_4 l0_5 l0_6) else ((impl_rising.f k l0_6).bind fun t206 => (impl_DrvOk.j0 k (!t206) a0_0 a0_1 l0_2 a0_3 l0_4 l0_5 l0_6))))) = some r := by rw [if_pos rfl] at H; exact H
       clear H
       have H := H1
       clear H1
       by_cases c14 : (l0_4.length : Int) > 2000
       ·rw [if_pos c14] at H
        have c14b0 : decide (2000 < (l0_4.length : Int)) = true := decide_eq_true c14
        have c14b1 : decide (2000 < l0_4.length) = true := decide_eq_true (by omega)
        clear c14
        have H' := Aside0.mk H
        clear H
        have hcz15_0 : w3.cell? ⟨gb202, 0, none⟩ = some (.string a0_0) := (blk_cell BK202.out 0).trans rfl
        have hcz15_1 : w3.cell? ⟨gb202, 1, none⟩ = some (.string a0_1) := (blk_cell BK202.out 1).trans rfl
        have hcz15_2 : w3.cell? ⟨gb202, 2, none⟩ = some (.slice A0_2 l0_2.length c0_2) := (blk_cell BK202.out 2).trans rfl
        have hcz15_3 : w3.cell? ⟨gb202, 3, none⟩ = some (.string a0_3) := (blk_cell BK202.out 3).trans rfl
        have hcz15_4 : w3.cell? ⟨gb202, 4, none⟩ = some (.slice A0_4 l0_4.length c0_4) := (blk_cell BK202.out 4).trans rfl
        have hcz15_5 : w3.cell? ⟨gb202, 5, none⟩ = some (.slice A0_5 l0_5.length c0_5) := (blk_cell BK202.out 5).trans rfl
        have hcz15_6 : w3.cell? ⟨gb202, 6, none⟩ = some (.slice A0_6 l0_6.length c0_6) := (blk_cell BK202.out 6).trans rfl
        have hfz15_0 := blk_frozen BK202.out 0
        have hfz15_1 := blk_frozen BK202.out 1
        have hfz15_2 := blk_frozen BK202.out 2
        have hfz15_3 := blk_frozen BK202.out 3
        have hfz15_4 := blk_frozen BK202.out 4
        have hfz15_5 := blk_frozen BK202.out 5
        have hfz15_6 := blk_frozen BK202.out 6
        go_wp2_with (first | (go_at_call 30; (with_reducible refine (impl_NameOk.calls k a0_0 true _ A4.out).mono ?_); rintro e w' ⟨rfl, ⟨nd, rfl⟩⟩; (try exact qD)) | (go_at_call 54; (with_reducible refine (impl_plainText.calls k a0_1 true _ A6.out).mono ?_); rintro e w' ⟨rfl, ⟨nd, rfl⟩⟩; (try exact qD)) | (go_at_call 55; (with_reducible refine (impl_rising.calls k _ _ l0_2 true _ ?side1 ?side2 A12.out).mono ?_); (case side1 => repeat (first | exact (Kd.C_below HR0_2.out (qG GE202.out)) | (with_reducible refine Kd.C_alloc ?_ _) | (with_reducible refine Kd.C_drewN ?_ _) | (with_reducible refine Kd.C_drew ?_))); (case side2 => exact HC0_2.out); rintro e w' ⟨rfl, ⟨nd, rfl⟩⟩; (try exact qD)))
        repeat (go_quiet (first | (go_at_call 30; (with_reducible refine (impl_NameOk.calls k a0_0 true _ A4.out).mono ?_); rintro e w' ⟨rfl, ⟨nd, rfl⟩⟩; (try exact qD)) | (go_at_call 54; (with_reducible refine (impl_plainText.calls k a0_1 true _ A6.out).mono ?_); rintro e w' ⟨rfl, ⟨nd, rfl⟩⟩; (try exact qD)) | (go_at_call 55; (with_reducible refine (impl_rising.calls k _ _ l0_2 true _ ?side1 ?side2 A12.out).mono ?_); (case side1 => repeat (first | exact (Kd.C_below HR0_2.out (qG GE202.out)) | (with_reducible refine Kd.C_alloc ?_ _) | (with_reducible refine Kd.C_drewN ?_ _) | (with_reducible refine Kd.C_drew ?_))); (case side2 => exact HC0_2.out); rintro e w' ⟨rfl, ⟨nd, rfl⟩⟩; (try exact qD))); try go_wp2_with (first | (go_at_call 30; (with_reducible refine (impl_NameOk.calls k a0_0 true _ A4.out).mono ?_); rintro e w' ⟨rfl, ⟨nd, rfl⟩⟩; (try exact qD)) | (go_at_call 54; (with_reducible refine (impl_plainText.calls k a0_1 true _ A6.out).mono ?_); rintro e w' ⟨rfl, ⟨nd, rfl⟩⟩; (try exact qD)) | (go_at_call 55; (with_reducible refine (impl_rising.calls k _ _ l0_2 true _ ?side1 ?side2 A12.out).mono ?_); (case side1 => repeat (first | exact (Kd.C_below HR0_2.out (qG GE202.out)) | (with_reducible refine Kd.C_alloc ?_ _) | (with_reducible refine Kd.C_drewN ?_ _) | (with_reducible refine Kd.C_drew ?_))); (case side2 => exact HC0_2.out); rintro e w' ⟨rfl, ⟨nd, rfl⟩⟩; (try exact qD))))
        go_meet
        case rel => exact ⟨_, (true), (by first | rfl | (simp; done) | (simp [*]; done)), H', ⟨by first | omega | exact Nat.le_refl _⟩, ⟨by (with_reducible repeat (first | refine blk_drewN ?_ _ | refine blk_drew ?_ | refine blk_alloc ?_ _)); exact BK202.out⟩, ⟨by repeat (first | (with_reducible first | exact HB.out | apply below_alloc | apply pw_below_drewN | apply below_drew1 | refine below_set ?_ GE202.out) | exact HB.out)⟩⟩
       ·rw [if_neg c14] at H
        have c14b0 : decide (2000 < (l0_4.length : Int)) = false := decide_eq_false c14
        have c14b1 : decide (2000 < l0_4.length) = false := decide_eq_false (by omega)
        clear c14
        by_cases c16 : (l0_5.length : Int) > 2000
        ·rw [if_pos c16] at H
         have c16b0 : decide (2000 < (l0_5.length : Int)) = true := decide_eq_true c16
         have c16b1 : decide (2000 < l0_5.length) = true := decide_eq_true (by omega)
         clear c16
         have H' := Aside0.mk H
         clear H
         have hcz17_0 : w3.cell? ⟨gb202, 0, none⟩ = some (.string a0_0) := (blk_cell BK202.out 0).trans rfl
         have hcz17_1 : w3.cell? ⟨gb202, 1, none⟩ = some (.string a0_1) := (blk_cell BK202.out 1).trans rfl
         have hcz17_2 : w3.cell? ⟨gb202, 2, none⟩ = some (.slice A0_2 l0_2.length c0_2) := (blk_cell BK202.out 2).trans rfl
         have hcz17_3 : w3.cell? ⟨gb202, 3, none⟩ = some (.string a0_3) := (blk_cell BK202.out 3).trans rfl
         have hcz17_4 : w3.cell? ⟨gb202, 4, none⟩ = some (.slice A0_4 l0_4.length c0_4) := (blk_cell BK202.out 4).trans rfl
         have hcz17_5 : w3.cell? ⟨gb202, 5, none⟩ = some (.slice A0_5 l0_5.length c0_5) := (blk_cell BK202.out 5).trans rfl
         have hcz17_6 : w3.cell? ⟨gb202, 6, none⟩ = some (.slice A0_6 l0_6.length c0_6) := (blk_cell BK202.out 6).trans rfl
         have hfz17_0 := blk_frozen BK202.out 0
         have hfz17_1 := blk_frozen BK202.out 1
         have hfz17_2 := blk_frozen BK202.out 2
         have hfz17_3 := blk_frozen BK202.out 3
         have hfz17_4 := blk_frozen BK202.out 4
         have hfz17_5 := blk_frozen BK202.out 5
         have hfz17_6 := blk_frozen BK202.out 6
         go_wp2_with (first | (go_at_call 30; (with_reducible refine (impl_NameOk.calls k a0_0 true _ A4.out).mono ?_); rintro e w' ⟨rfl, ⟨nd, rfl⟩⟩; (try exact qD)) | (go_at_call 54; (with_reducible refine (impl_plainText.calls k a0_1 true _ A6.out).mono ?_); rintro e w' ⟨rfl, ⟨nd, rfl⟩⟩; (try exact qD)) | (go_at_call 55; (with_reducible refine (impl_rising.calls k _ _ l0_2 true _ ?side1 ?side2 A12.out).mono ?_); (case side1 => repeat (first | exact (Kd.C_below HR0_2.out (qG GE202.out)) | (with_reducible refine Kd.C_alloc ?_ _) | (with_reducible refine Kd.C_drewN ?_ _) | (with_reducible refine Kd.C_drew ?_))); (case side2 => exact HC0_2.out); rintro e w' ⟨rfl, ⟨nd, rfl⟩⟩; (try exact qD)))
         repeat (go_quiet (first | (go_at_call 30; (with_reducible refine (impl_NameOk.calls k a0_0 true _ A4.out).mono ?_); rintro e w' ⟨rfl, ⟨nd, rfl⟩⟩; (try exact qD)) | (go_at_call 54; (with_reducible refine (impl_plainText.calls k a0_1 true _ A6.out).mono ?_); rintro e w' ⟨rfl, ⟨nd, rfl⟩⟩; (try exact qD)) | (go_at_call 55; (with_reducible refine (impl_rising.calls k _ _ l0_2 true _ ?side1 ?side2 A12.out).mono ?_); (case side1 => repeat (first | exact (Kd.C_below HR0_2.out (qG GE202.out)) | (with_reducible refine Kd.C_alloc ?_ _) | (with_reducible refine Kd.C_drewN ?_ _) | (with_reducible refine Kd.C_drew ?_))); (case side2 => exact HC0_2.out); rintro e w' ⟨rfl, ⟨nd, rfl⟩⟩; (try exact qD))); try go_wp2_with (first | (go_at_call 30; (with_reducible refine (impl_NameOk.calls k a0_0 true _ A4.out).mono ?_); rintro e w' ⟨rfl, ⟨nd, rfl⟩⟩; (try exact qD)) | (go_at_call 54; (with_reducible refine (impl_plainText.calls k a0_1 true _ A6.out).mono ?_); rintro e w' ⟨rfl, ⟨nd, rfl⟩⟩; (try exact qD)) | (go_at_call 55; (with_reducible refine (impl_rising.calls k _ _ l0_2 true _ ?side1 ?side2 A12.out).mono ?_); (case side1 => repeat (first | exact (Kd.C_below HR0_2.out (qG GE202.out)) | (with_reducible refine Kd.C_alloc ?_ _) | (with_reducible refine Kd.C_drewN ?_ _) | (with_reducible refine Kd.C_drew ?_))); (case side2 => exact HC0_2.out); rintro e w' ⟨rfl, ⟨nd, rfl⟩⟩; (try exact qD))))
         go_meet
         case rel => exact ⟨_, (true), (by first | rfl | (simp; done) | (simp [*]; done)), H', ⟨by first | omega | exact Nat.le_refl _⟩, ⟨by (with_reducible repeat (first | refine blk_drewN ?_ _ | refine blk_drew ?_ | refine blk_alloc ?_ _)); exact BK202.out⟩, ⟨by repeat (first | (with_reducible first | exact HB.out | apply below_alloc | apply pw_below_drewN | apply below_drew1 | refine below_set ?_ GE202.out) | exact HB.out)⟩⟩
        ·rw [if_neg c16] at H
         have c16b0 : decide (2000 < (l0_5.length : Int)) = false := decide_eq_false c16
         have c16b1 : decide (2000 < l0_5.length) = false := decide_eq_false (by omega)
         clear c16
         by_cases c18 : (l0_6.length : Int) > 2000
         ·rw [if_pos c18] at H
          have c18b0 : decide (2000 < (l0_6.length : Int)) = true := decide_eq_true c18
          have c18b1 : decide (2000 < l0_6.length) = true := decide_eq_true (by omega)
          clear c18
          have H' := Aside0.mk H
          clear H
          have hcz19_0 : w3.cell? ⟨gb202, 0, none⟩ = some (.string a0_0) := (blk_cell BK202.out 0).trans rfl
          have hcz19_1 : w3.cell? ⟨gb202, 1, none⟩ = some (.string a0_1) := (blk_cell BK202.out 1).trans rfl
          have hcz19_2 : w3.cell? ⟨gb202, 2, none⟩ = some (.slice A0_2 l0_2.length c0_2) := (blk_cell BK202.out 2).trans rfl
          have hcz19_3 : w3.cell? ⟨gb202, 3, none⟩ = some (.string a0_3) := (blk_cell BK202.out 3).trans rfl
          have hcz19_4 : w3.cell? ⟨gb202, 4, none⟩ = some (.slice A0_4 l0_4.length c0_4) := (blk_cell BK202.out 4).trans rfl
          have hcz19_5 : w3.cell? ⟨gb202, 5, none⟩ = some (.slice A0_5 l0_5.length c0_5) := (blk_cell BK202.out 5).trans rfl
          have hcz19_6 : w3.cell? ⟨gb202, 6, none⟩ = some (.slice A0_6 l0_6.length c0_6) := (blk_cell BK202.out 6).trans rfl
          have hfz19_0 := blk_frozen BK202.out 0
          have hfz19_1 := blk_frozen BK202.out 1
          have hfz19_2 := blk_frozen BK202.out 2
          have hfz19_3 := blk_frozen BK202.out 3
          have hfz19_4 := blk_frozen BK202.out 4
          have hfz19_5 := blk_frozen BK202.out 5
          have hfz19_6 := blk_frozen BK202.out 6
          go_wp2_with (first | (go_at_call 30; (with_reducible refine (impl_NameOk.calls k a0_0 true _ A4.out).mono ?_); rintro e w' ⟨rfl, ⟨nd, rfl⟩⟩; (try exact qD)) | (go_at_call 54; (with_reducible refine (impl_plainText.calls k a0_1 true _ A6.out).mono ?_); rintro e w' ⟨rfl, ⟨nd, rfl⟩⟩; (try exact qD)) | (go_at_call 55; (with_reducible refine (impl_rising.calls k _ _ l0_2 true _ ?side1 ?side2 A12.out).mono ?_); (case side1 => repeat (first | exact (Kd.C_below HR0_2.out (qG GE202.out)) | (with_reducible refine Kd.C_alloc ?_ _) | (with_reducible refine Kd.C_drewN ?_ _) | (with_reducible refine Kd.C_drew ?_))); (case side2 => exact HC0_2.out); rintro e w' ⟨rfl, ⟨nd, rfl⟩⟩; (try exact qD)))
          repeat (go_quiet (first | (go_at_call 30; (with_reducible refine (impl_NameOk.calls k a0_0 true _ A4.out).mono ?_); rintro e w' ⟨rfl, ⟨nd, rfl⟩⟩; (try exact qD)) | (go_at_call 54; (with_reducible refine (impl_plainText.calls k a0_1 true _ A6.out).mono ?_); rintro e w' ⟨rfl, ⟨nd, rfl⟩⟩; (try exact qD)) | (go_at_call 55; (with_reducible refine (impl_rising.calls k _ _ l0_2 true _ ?side1 ?side2 A12.out).mono ?_); (case side1 => repeat (first | exact (Kd.C_below HR0_2.out (qG GE202.out)) | (with_reducible refine Kd.C_alloc ?_ _) | (with_reducible refine Kd.C_drewN ?_ _) | (with_reducible refine Kd.C_drew ?_))); (case side2 => exact HC0_2.out); rintro e w' ⟨rfl, ⟨nd, rfl⟩⟩; (try exact qD))); try go_wp2_with (first | (go_at_call 30; (with_reducible refine (impl_NameOk.calls k a0_0 true _ A4.out).mono ?_); rintro e w' ⟨rfl, ⟨nd, rfl⟩⟩; (try exact qD)) | (go_at_call 54; (with_reducible refine (impl_plainText.calls k a0_1 true _ A6.out).mono ?_); rintro e w' ⟨rfl, ⟨nd, rfl⟩⟩; (try exact qD)) | (go_at_call 55; (with_reducible refine (impl_rising.calls k _ _ l0_2 true _ ?side1 ?side2 A12.out).mono ?_); (case side1 => repeat (first | exact (Kd.C_below HR0_2.out (qG GE202.out)) | (with_reducible refine Kd.C_alloc ?_ _) | (with_reducible refine Kd.C_drewN ?_ _) | (with_reducible refine Kd.C_drew ?_))); (case side2 => exact HC0_2.out); rintro e w' ⟨rfl, ⟨nd, rfl⟩⟩; (try exact qD))))
          go_meet
          case rel => exact ⟨_, (true), (by first | rfl | (simp; done) | (simp [*]; done)), H', ⟨by first | omega | exact Nat.le_refl _⟩, ⟨by (with_reducible repeat (first | refine blk_drewN ?_ _ | refine blk_drew ?_ | refine blk_alloc ?_ _)); exact BK202.out⟩, ⟨by repeat (first | (with_reducible first | exact HB.out | apply below_alloc | apply pw_below_drewN | apply below_drew1 | refine below_set ?_ GE202.out) | exact HB.out)⟩⟩
         ·rw [if_neg c18] at H
          have c18b0 : decide (2000 < (l0_6.length : Int)) = false := decide_eq_false c18
          have c18b1 : decide (2000 < l0_6.length) = false := decide_eq_false (by omega)
          clear c18
          replace H := Option.bind_eq_some_iff.mp H
          obtain ⟨t206, A200, H⟩ := H
          replace H : (impl_DrvOk.j0 k (!t206) a0_0 a0_1 l0_2 a0_3 l0_4 l0_5 l0_6) = some r := H
          have A20 := Aside0.mk A200
          clear A200
          have H' := Aside0.mk H
          clear H
          have hcz21_0 : w3.cell? ⟨gb202, 0, none⟩ = some (.string a0_0) := (blk_cell BK202.out 0).trans rfl
          have hcz21_1 : w3.cell? ⟨gb202, 1, none⟩ = some (.string a0_1) := (blk_cell BK202.out 1).trans rfl
          have hcz21_2 : w3.cell? ⟨gb202, 2, none⟩ = some (.slice A0_2 l0_2.length c0_2) := (blk_cell BK202.out 2).trans rfl
          have hcz21_3 : w3.cell? ⟨gb202, 3, none⟩ = some (.string a0_3) := (blk_cell BK202.out 3).trans rfl
          have hcz21_4 : w3.cell? ⟨gb202, 4, none⟩ = some (.slice A0_4 l0_4.length c0_4) := (blk_cell BK202.out 4).trans rfl
          have hcz21_5 : w3.cell? ⟨gb202, 5, none⟩ = some (.slice A0_5 l0_5.length c0_5) := (blk_cell BK202.out 5).trans rfl
          have hcz21_6 : w3.cell? ⟨gb202, 6, none⟩ = some (.slice A0_6 l0_6.length c0_6) := (blk_cell BK202.out 6).trans rfl
          have hfz21_0 := blk_frozen BK202.out 0
          have hfz21_1 := blk_frozen BK202.out 1
          have hfz21_2 := blk_frozen BK202.out 2
          have hfz21_3 := blk_frozen BK202.out 3
          have hfz21_4 := blk_frozen BK202.out 4
          have hfz21_5 := blk_frozen BK202.out 5
          have hfz21_6 := blk_frozen BK202.out 6
          go_wp2_with (first | (go_at_call 30; (with_reducible refine (impl_NameOk.calls k a0_0 true _ A4.out).mono ?_); rintro e w' ⟨rfl, ⟨nd, rfl⟩⟩; (try exact qD)) | (go_at_call 54; (with_reducible refine (impl_plainText.calls k a0_1 true _ A6.out).mono ?_); rintro e w' ⟨rfl, ⟨nd, rfl⟩⟩; (try exact qD)) | (go_at_call 55; (with_reducible refine (impl_rising.calls k _ _ l0_2 true _ ?side1 ?side2 A12.out).mono ?_); (case side1 => repeat (first | exact (Kd.C_below HR0_2.out (qG GE202.out)) | (with_reducible refine Kd.C_alloc ?_ _) | (with_reducible refine Kd.C_drewN ?_ _) | (with_reducible refine Kd.C_drew ?_))); (case side2 => exact HC0_2.out); rintro e w' ⟨rfl, ⟨nd, rfl⟩⟩; (try exact qD)) | (go_at_call 55; (with_reducible refine (impl_rising.calls k _ _ l0_6 t206 _ ?side1 ?side2 A20.out).mono ?_); (case side1 => repeat (first | exact (Kd.C_below HR0_6.out (qG GE202.out)) | (with_reducible refine Kd.C_alloc ?_ _) | (with_reducible refine Kd.C_drewN ?_ _) | (with_reducible refine Kd.C_drew ?_))); (case side2 => exact HC0_6.out); rintro e w' ⟨rfl, ⟨nd, rfl⟩⟩; (try exact qD)))
          repeat (go_quiet (first | (go_at_call 30; (with_reducible refine (impl_NameOk.calls k a0_0 true _ A4.out).mono ?_); rintro e w' ⟨rfl, ⟨nd, rfl⟩⟩; (try exact qD)) | (go_at_call 54; (with_reducible refine (impl_plainText.calls k a0_1 true _ A6.out).mono ?_); rintro e w' ⟨rfl, ⟨nd, rfl⟩⟩; (try exact qD)) | (go_at_call 55; (with_reducible refine (impl_rising.calls k _ _ l0_2 true _ ?side1 ?side2 A12.out).mono ?_); (case side1 => repeat (first | exact (Kd.C_below HR0_2.out (qG GE202.out)) | (with_reducible refine Kd.C_alloc ?_ _) | (with_reducible refine Kd.C_drewN ?_ _) | (with_reducible refine Kd.C_drew ?_))); (case side2 => exact HC0_2.out); rintro e w' ⟨rfl, ⟨nd, rfl⟩⟩; (try exact qD)) | (go_at_call 55; (with_reducible refine (impl_rising.calls k _ _ l0_6 t206 _ ?side1 ?side2 A20.out).mono ?_); (case side1 => repeat (first | exact (Kd.C_below HR0_6.out (qG GE202.out)) | (with_reducible refine Kd.C_alloc ?_ _) | (with_reducible refine Kd.C_drewN ?_ _) | (with_reducible refine Kd.C_drew ?_))); (case side2 => exact HC0_6.out); rintro e w' ⟨rfl, ⟨nd, rfl⟩⟩; (try exact qD))); try go_wp2_with (first | (go_at_call 30; (with_reducible refine (impl_NameOk.calls k a0_0 true _ A4.out).mono ?_); rintro e w' ⟨rfl, ⟨nd, rfl⟩⟩; (try exact qD)) | (go_at_call 54; (with_reducible refine (impl_plainText.calls k a0_1 true _ A6.out).mono ?_); rintro e w' ⟨rfl, ⟨nd, rfl⟩⟩; (try exact qD)) | (go_at_call 55; (with_reducible refine (impl_rising.calls k _ _ l0_2 true _ ?side1 ?side2 A12.out).mono ?_); (case side1 => repeat (first | exact (Kd.C_below HR0_2.out (qG GE202.out)) | (with_reducible refine Kd.C_alloc ?_ _) | (with_reducible refine Kd.C_drewN ?_ _) | (with_reducible refine Kd.C_drew ?_))); (case side2 => exact HC0_2.out); rintro e w' ⟨rfl, ⟨nd, rfl⟩⟩; (try exact qD)) | (go_at_call 55; (with_reducible refine (impl_rising.calls k _ _ l0_6 t206 _ ?side1 ?side2 A20.out).mono ?_); (case side1 => repeat (first | exact (Kd.C_below HR0_6.out (qG GE202.out)) | (with_reducible refine Kd.C_alloc ?_ _) | (with_reducible refine Kd.C_drewN ?_ _) | (with_reducible refine Kd.C_drew ?_))); (case side2 => exact HC0_6.out); rintro e w' ⟨rfl, ⟨nd, rfl⟩⟩; (try exact qD))))
          go_meet
          case rel => exact ⟨_, (!t206), (by first | rfl | (simp; done) | (simp [*]; done)), H', ⟨by first | omega | exact Nat.le_refl _⟩, ⟨by (with_reducible repeat (first | refine blk_drewN ?_ _ | refine blk_drew ?_ | refine blk_alloc ?_ _)); exact BK202.out⟩, ⟨by repeat (first | (with_reducible first | exact HB.out | apply below_alloc | apply pw_below_drewN | apply below_drew1 | refine below_set ?_ GE202.out) | exact HB.out)⟩⟩
      ·replace c13 := Bool.eq_false_iff.mpr c13
       subst c13
       have H1 : (impl_DrvOk.j0 k true a0_0 a0_1 l0_2 a0_3 l0_4 l0_5 l0_6) = some r := by rw [if_neg (show ¬ (false = true) by decide)] at H; exact H
       clear H
       have H := H1
       clear H1
       have H' := Aside0.mk H
       clear H
       have hcz22_0 : w3.cell? ⟨gb202, 0, none⟩ = some (.string a0_0) := (blk_cell BK202.out 0).trans rfl
       have hcz22_1 : w3.cell? ⟨gb202, 1, none⟩ = some (.string a0_1) := (blk_cell BK202.out 1).trans rfl
       have hcz22_2 : w3.cell? ⟨gb202, 2, none⟩ = some (.slice A0_2 l0_2.length c0_2) := (blk_cell BK202.out 2).trans rfl
       have hcz22_3 : w3.cell? ⟨gb202, 3, none⟩ = some (.string a0_3) := (blk_cell BK202.out 3).trans rfl
       have hcz22_4 : w3.cell? ⟨gb202, 4, none⟩ = some (.slice A0_4 l0_4.length c0_4) := (blk_cell BK202.out 4).trans rfl
       have hcz22_5 : w3.cell? ⟨gb202, 5, none⟩ = some (.slice A0_5 l0_5.length c0_5) := (blk_cell BK202.out 5).trans rfl
       have hcz22_6 : w3.cell? ⟨gb202, 6, none⟩ = some (.slice A0_6 l0_6.length c0_6) := (blk_cell BK202.out 6).trans rfl
       have hfz22_0 := blk_frozen BK202.out 0
       have hfz22_1 := blk_frozen BK202.out 1
       have hfz22_2 := blk_frozen BK202.out 2
       have hfz22_3 := blk_frozen BK202.out 3
       have hfz22_4 := blk_frozen BK202.out 4
       have hfz22_5 := blk_frozen BK202.out 5
       have hfz22_6 := blk_frozen BK202.out 6
       go_wp2_with (first | (go_at_call 30; (with_reducible refine (impl_NameOk.calls k a0_0 true _ A4.out).mono ?_); rintro e w' ⟨rfl, ⟨nd, rfl⟩⟩; (try exact qD)) | (go_at_call 54; (with_reducible refine (impl_plainText.calls k a0_1 true _ A6.out).mono ?_); rintro e w' ⟨rfl, ⟨nd, rfl⟩⟩; (try exact qD)) | (go_at_call 55; (with_reducible refine (impl_rising.calls k _ _ l0_2 false _ ?side1 ?side2 A12.out).mono ?_); (case side1 => repeat (first | exact (Kd.C_below HR0_2.out (qG GE202.out)) | (with_reducible refine Kd.C_alloc ?_ _) | (with_reducible refine Kd.C_drewN ?_ _) | (with_reducible refine Kd.C_drew ?_))); (case side2 => exact HC0_2.out); rintro e w' ⟨rfl, ⟨nd, rfl⟩⟩; (try exact qD)))
       repeat (go_quiet (first | (go_at_call 30; (with_reducible refine (impl_NameOk.calls k a0_0 true _ A4.out).mono ?_); rintro e w' ⟨rfl, ⟨nd, rfl⟩⟩; (try exact qD)) | (go_at_call 54; (with_reducible refine (impl_plainText.calls k a0_1 true _ A6.out).mono ?_); rintro e w' ⟨rfl, ⟨nd, rfl⟩⟩; (try exact qD)) | (go_at_call 55; (with_reducible refine (impl_rising.calls k _ _ l0_2 false _ ?side1 ?side2 A12.out).mono ?_); (case side1 => repeat (first | exact (Kd.C_below HR0_2.out (qG GE202.out)) | (with_reducible refine Kd.C_alloc ?_ _) | (with_reducible refine Kd.C_drewN ?_ _) | (with_reducible refine Kd.C_drew ?_))); (case side2 => exact HC0_2.out); rintro e w' ⟨rfl, ⟨nd, rfl⟩⟩; (try exact qD))); try go_wp2_with (first | (go_at_call 30; (with_reducible refine (impl_NameOk.calls k a0_0 true _ A4.out).mono ?_); rintro e w' ⟨rfl, ⟨nd, rfl⟩⟩; (try exact qD)) | (go_at_call 54; (with_reducible refine (impl_plainText.calls k a0_1 true _ A6.out).mono ?_); rintro e w' ⟨rfl, ⟨nd, rfl⟩⟩; (try exact qD)) | (go_at_call 55; (with_reducible refine (impl_rising.calls k _ _ l0_2 false _ ?side1 ?side2 A12.out).mono ?_); (case side1 => repeat (first | exact (Kd.C_below HR0_2.out (qG GE202.out)) | (with_reducible refine Kd.C_alloc ?_ _) | (with_reducible refine Kd.C_drewN ?_ _) | (with_reducible refine Kd.C_drew ?_))); (case side2 => exact HC0_2.out); rintro e w' ⟨rfl, ⟨nd, rfl⟩⟩; (try exact qD))))
       go_meet
       case rel => exact ⟨_, (true), (by first | rfl | (simp; done) | (simp [*]; done)), H', ⟨by first | omega | exact Nat.le_refl _⟩, ⟨by (with_reducible repeat (first | refine blk_drewN ?_ _ | refine blk_drew ?_ | refine blk_alloc ?_ _)); exact BK202.out⟩, ⟨by repeat (first | (with_reducible first | exact HB.out | apply below_alloc | apply pw_below_drewN | apply below_drew1 | refine below_set ?_ GE202.out) | exact HB.out)⟩⟩
   ·replace c7 := Bool.eq_false_iff.mpr c7
    subst c7
    have H1 : (impl_DrvOk.j0 k true a0_0 a0_1 l0_2 a0_3 l0_4 l0_5 l0_6) = some r := by rw [if_neg (show ¬ (false = true) by decide)] at H; exact H
    clear H
    have H := H1
    clear H1
    have H' := Aside0.mk H
    clear H
    have hcz23_0 : w3.cell? ⟨gb202, 0, none⟩ = some (.string a0_0) := (blk_cell BK202.out 0).trans rfl
    have hcz23_1 : w3.cell? ⟨gb202, 1, none⟩ = some (.string a0_1) := (blk_cell BK202.out 1).trans rfl
    have hcz23_2 : w3.cell? ⟨gb202, 2, none⟩ = some (.slice A0_2 l0_2.length c0_2) := (blk_cell BK202.out 2).trans rfl
    have hcz23_3 : w3.cell? ⟨gb202, 3, none⟩ = some (.string a0_3) := (blk_cell BK202.out 3).trans rfl
    have hcz23_4 : w3.cell? ⟨gb202, 4, none⟩ = some (.slice A0_4 l0_4.length c0_4) := (blk_cell BK202.out 4).trans rfl
    have hcz23_5 : w3.cell? ⟨gb202, 5, none⟩ = some (.slice A0_5 l0_5.length c0_5) := (blk_cell BK202.out 5).trans rfl
    have hcz23_6 : w3.cell? ⟨gb202, 6, none⟩ = some (.slice A0_6 l0_6.length c0_6) := (blk_cell BK202.out 6).trans rfl
    have hfz23_0 := blk_frozen BK202.out 0
    have hfz23_1 := blk_frozen BK202.out 1
    have hfz23_2 := blk_frozen BK202.out 2
    have hfz23_3 := blk_frozen BK202.out 3
    have hfz23_4 := blk_frozen BK202.out 4
    have hfz23_5 := blk_frozen BK202.out 5
    have hfz23_6 := blk_frozen BK202.out 6
    go_wp2_with (first | (go_at_call 30; (with_reducible refine (impl_NameOk.calls k a0_0 true _ A4.out).mono ?_); rintro e w' ⟨rfl, ⟨nd, rfl⟩⟩; (try exact qD)) | (go_at_call 54; (with_reducible refine (impl_plainText.calls k a0_1 false _ A6.out).mono ?_); rintro e w' ⟨rfl, ⟨nd, rfl⟩⟩; (try exact qD)))
    repeat (go_quiet (first | (go_at_call 30; (with_reducible refine (impl_NameOk.calls k a0_0 true _ A4.out).mono ?_); rintro e w' ⟨rfl, ⟨nd, rfl⟩⟩; (try exact qD)) | (go_at_call 54; (with_reducible refine (impl_plainText.calls k a0_1 false _ A6.out).mono ?_); rintro e w' ⟨rfl, ⟨nd, rfl⟩⟩; (try exact qD))); try go_wp2_with (first | (go_at_call 30; (with_reducible refine (impl_NameOk.calls k a0_0 true _ A4.out).mono ?_); rintro e w' ⟨rfl, ⟨nd, rfl⟩⟩; (try exact qD)) | (go_at_call 54; (with_reducible refine (impl_plainText.calls k a0_1 false _ A6.out).mono ?_); rintro e w' ⟨rfl, ⟨nd, rfl⟩⟩; (try exact qD))))
    go_meet
    case rel => exact ⟨_, (true), (by first | rfl | (simp; done) | (simp [*]; done)), H', ⟨by first | omega | exact Nat.le_refl _⟩, ⟨by (with_reducible repeat (first | refine blk_drewN ?_ _ | refine blk_drew ?_ | refine blk_alloc ?_ _)); exact BK202.out⟩, ⟨by repeat (first | (with_reducible first | exact HB.out | apply below_alloc | apply pw_below_drewN | apply below_drew1 | refine below_set ?_ GE202.out) | exact HB.out)⟩⟩
  ·replace c5 := Bool.eq_false_iff.mpr c5
   subst c5
   have H1 : (impl_DrvOk.j0 k true a0_0 a0_1 l0_2 a0_3 l0_4 l0_5 l0_6) = some r := by rw [if_neg (show ¬ (false = true) by decide)] at H; exact H
   clear H
   have H := H1
   clear H1
   have H' := Aside0.mk H
   clear H
   have hcz24_0 : w3.cell? ⟨gb202, 0, none⟩ = some (.string a0_0) := (blk_cell BK202.out 0).trans rfl
   have hcz24_1 : w3.cell? ⟨gb202, 1, none⟩ = some (.string a0_1) := (blk_cell BK202.out 1).trans rfl
   have hcz24_2 : w3.cell? ⟨gb202, 2, none⟩ = some (.slice A0_2 l0_2.length c0_2) := (blk_cell BK202.out 2).trans rfl
   have hcz24_3 : w3.cell? ⟨gb202, 3, none⟩ = some (.string a0_3) := (blk_cell BK202.out 3).trans rfl
   have hcz24_4 : w3.cell? ⟨gb202, 4, none⟩ = some (.slice A0_4 l0_4.length c0_4) := (blk_cell BK202.out 4).trans rfl
   have hcz24_5 : w3.cell? ⟨gb202, 5, none⟩ = some (.slice A0_5 l0_5.length c0_5) := (blk_cell BK202.out 5).trans rfl
   have hcz24_6 : w3.cell? ⟨gb202, 6, none⟩ = some (.slice A0_6 l0_6.length c0_6) := (blk_cell BK202.out 6).trans rfl
   have hfz24_0 := blk_frozen BK202.out 0
   have hfz24_1 := blk_frozen BK202.out 1
   have hfz24_2 := blk_frozen BK202.out 2
   have hfz24_3 := blk_frozen BK202.out 3
   have hfz24_4 := blk_frozen BK202.out 4
   have hfz24_5 := blk_frozen BK202.out 5
   have hfz24_6 := blk_frozen BK202.out 6
   go_wp2_with (first | (go_at_call 30; (with_reducible refine (impl_NameOk.calls k a0_0 false _ A4.out).mono ?_); rintro e w' ⟨rfl, ⟨nd, rfl⟩⟩; (try exact qD)))
   repeat (go_quiet (first | (go_at_call 30; (with_reducible refine (impl_NameOk.calls k a0_0 false _ A4.out).mono ?_); rintro e w' ⟨rfl, ⟨nd, rfl⟩⟩; (try exact qD))); try go_wp2_with (first | (go_at_call 30; (with_reducible refine (impl_NameOk.calls k a0_0 false _ A4.out).mono ?_); rintro e w' ⟨rfl, ⟨nd, rfl⟩⟩; (try exact qD))))
   go_meet
   case rel => exact ⟨_, (true), (by first | rfl | (simp; done) | (simp [*]; done)), H', ⟨by first | omega | exact Nat.le_refl _⟩, ⟨by (with_reducible repeat (first | refine blk_drewN ?_ _ | refine blk_drew ?_ | refine blk_alloc ?_ _)); exact BK202.out⟩, ⟨by repeat (first | (with_reducible first | exact HB.out | apply below_alloc | apply pw_below_drewN | apply below_drew1 | refine below_set ?_ GE202.out) | exact HB.out)⟩⟩
 case rest =>
  clear HC2
  try clear c1
  try clear c2
  try clear p2
  try clear c5
  try clear c7
  try clear c8
  try clear c8b0
  try clear c8b1
  try clear c10
  try clear c10b0
  try clear c10b1
  try clear c13
  try clear c14
  try clear c14b0
  try clear c14b1
  try clear c16
  try clear c16b0
  try clear c16b1
  try clear c18
  try clear c18b0
  try clear c18b1
  try clear hcz11_0
  try clear hcz11_1
  try clear hcz11_2
  try clear hcz11_3
  try clear hcz11_4
  try clear hcz11_5
  try clear hcz11_6
  try clear hcz15_0
  try clear hcz15_1
  try clear hcz15_2
  try clear hcz15_3
  try clear hcz15_4
  try clear hcz15_5
  try clear hcz15_6
  try clear hcz17_0
  try clear hcz17_1
  try clear hcz17_2
  try clear hcz17_3
  try clear hcz17_4
  try clear hcz17_5
  try clear hcz17_6
  try clear hcz19_0
  try clear hcz19_1
  try clear hcz19_2
  try clear hcz19_3
  try clear hcz19_4
  try clear hcz19_5
  try clear hcz19_6
  try clear hcz21_0
  try clear hcz21_1
  try clear hcz21_2
  try clear hcz21_3
  try clear hcz21_4
  try clear hcz21_5
  try clear hcz21_6
  try clear hcz22_0
  try clear hcz22_1
  try clear hcz22_2
  try clear hcz22_3
  try clear hcz22_4
  try clear hcz22_5
  try clear hcz22_6
  try clear hcz23_0
  try clear hcz23_1
  try clear hcz23_2
  try clear hcz23_3
  try clear hcz23_4
  try clear hcz23_5
  try clear hcz23_6
  try clear hcz24_0
  try clear hcz24_1
  try clear hcz24_2
  try clear hcz24_3
  try clear hcz24_4
  try clear hcz24_5
  try clear hcz24_6
  try clear hcz9_0
  try clear hcz9_1
  try clear hcz9_2
  try clear hcz9_3
  try clear hcz9_4
  try clear hcz9_5
  try clear hcz9_6
  try clear hfz11_0
  try clear hfz11_1
  try clear hfz11_2
  try clear hfz11_3
  try clear hfz11_4
  try clear hfz11_5
  try clear hfz11_6
  try clear hfz15_0
  try clear hfz15_1
  try clear hfz15_2
  try clear hfz15_3
  try clear hfz15_4
  try clear hfz15_5
  try clear hfz15_6
  try clear hfz17_0
  try clear hfz17_1
  try clear hfz17_2
  try clear hfz17_3
  try clear hfz17_4
  try clear hfz17_5
  try clear hfz17_6
  try clear hfz19_0
  try clear hfz19_1
  try clear hfz19_2
  try clear hfz19_3
  try clear hfz19_4
  try clear hfz19_5
  try clear hfz19_6
  try clear hfz21_0
  try clear hfz21_1
  try clear hfz21_2
  try clear hfz21_3
  try clear hfz21_4
  try clear hfz21_5
  try clear hfz21_6
  try clear hfz22_0
  try clear hfz22_1
  try clear hfz22_2
  try clear hfz22_3
  try clear hfz22_4
  try clear hfz22_5
  try clear hfz22_6
  try clear hfz23_0
  try clear hfz23_1
  try clear hfz23_2
  try clear hfz23_3
  try clear hfz23_4
  try clear hfz23_5
  try clear hfz23_6
  try clear hfz24_0
  try clear hfz24_1
  try clear hfz24_2
  try clear hfz24_3
  try clear hfz24_4
  try clear hfz24_5
  try clear hfz24_6
  try clear hfz9_0
  try clear hfz9_1
  try clear hfz9_2
  try clear hfz9_3
  try clear hfz9_4
  try clear hfz9_5
  try clear hfz9_6
  obtain ⟨kq, x65_1, rfl, HA, HJ1, BK202, HB⟩ := hcut
  cases kq with
  | zero => exact absurd HA.out (by simp [impl_DrvOk.j0])
  | succ kj1 =>
   have H := HA.out
   clear HA
   simp only [impl_DrvOk.j0] at H
   by_cases c25 : x65_1 = true
   ·subst c25
    have H1 : (some false) = some r := by rw [if_pos rfl] at H; exact H
    clear H
    have H := H1
    clear H1
    obtain rfl := Option.some.inj H
    go_wp2
    repeat (go_quiet (fail); try go_wp2)
    go_ret
    exact ⟨by first | rfl | (simp [errW_none, errW_some] <;> rfl) | (simp [*, errW_none, errW_some] <;> rfl), by repeat (first | (with_reducible first | exact HB.out | apply below_alloc | apply pw_below_drewN | apply below_drew1 | refine below_set ?_ GE202.out) | exact HB.out)⟩
   ·replace c25 := Bool.eq_false_iff.mpr c25
    subst c25
    have H1 : (impl_DrvOk.l0 kj1 l0_2 (l0_2.length : Int) 0 a0_0 a0_1 l0_2 a0_3 l0_4 l0_5 l0_6) = some r := by rw [if_neg (show ¬ (false = true) by decide)] at H; exact H
    clear H
    have H := H1
    clear H1
    have H' := Aside0.mk H
    clear H
    have hcz26_0 : wc.cell? ⟨gb202, 0, none⟩ = some (.string a0_0) := (blk_cell BK202.out 0).trans rfl
    have hcz26_1 : wc.cell? ⟨gb202, 1, none⟩ = some (.string a0_1) := (blk_cell BK202.out 1).trans rfl
    have hcz26_2 : wc.cell? ⟨gb202, 2, none⟩ = some (.slice A0_2 l0_2.length c0_2) := (blk_cell BK202.out 2).trans rfl
    have hcz26_3 : wc.cell? ⟨gb202, 3, none⟩ = some (.string a0_3) := (blk_cell BK202.out 3).trans rfl
    have hcz26_4 : wc.cell? ⟨gb202, 4, none⟩ = some (.slice A0_4 l0_4.length c0_4) := (blk_cell BK202.out 4).trans rfl
    have hcz26_5 : wc.cell? ⟨gb202, 5, none⟩ = some (.slice A0_5 l0_5.length c0_5) := (blk_cell BK202.out 5).trans rfl
    have hcz26_6 : wc.cell? ⟨gb202, 6, none⟩ = some (.slice A0_6 l0_6.length c0_6) := (blk_cell BK202.out 6).trans rfl
    have hfz26_0 := blk_frozen BK202.out 0
    have hfz26_1 := blk_frozen BK202.out 1
    have hfz26_2 := blk_frozen BK202.out 2
    have hfz26_3 := blk_frozen BK202.out 3
    have hfz26_4 := blk_frozen BK202.out 4
    have hfz26_5 := blk_frozen BK202.out 5
    have hfz26_6 := blk_frozen BK202.out 6
    go_wp2
    repeat (go_quiet (fail); try go_wp2)
    go_loopg [69] kj1 (fun kq v69 w' => ∃ (x69_2 : Int), v69 = .int .i64 x69_2 ∧ Aside0 (impl_DrvOk.l0 kq l0_2 (l0_2.length : Int) x69_2 a0_0 a0_1 l0_2 a0_3 l0_4 l0_5 l0_6 = some r) ∧ Aside0 (kq ≤ kj1) ∧ Aside0 (w'.heap[gb202]? = some (.cells #[.string a0_0, .string a0_1, (.slice A0_2 l0_2.length c0_2), .string a0_3, (.slice A0_4 l0_4.length c0_4), (.slice A0_5 l0_5.length c0_5), (.slice A0_6 l0_6.length c0_6)] 48 (0, 0))) ∧ Aside0 (Below w.heap.size w w'))
    case atStart => exact ⟨(0), (by first | rfl | (simp; done) | (simp [*]; done)), H', ⟨Nat.le_refl _⟩, ⟨by (with_reducible repeat (first | refine blk_drewN ?_ _ | refine blk_drew ?_ | refine blk_alloc ?_ _)); exact BK202.out⟩, ⟨by repeat (first | (with_reducible first | exact HB.out | apply below_alloc | apply pw_below_drewN | apply below_drew1 | refine below_set ?_ GE202.out) | exact HB.out)⟩⟩
    case round =>
     clear H'
     try clear c1
     try clear c2
     try clear p2
     try clear c5
     try clear c7
     try clear c8
     try clear c8b0
     try clear c8b1
     try clear c10
     try clear c10b0
     try clear c10b1
     try clear c13
     try clear c14
     try clear c14b0
     try clear c14b1
     try clear c16
     try clear c16b0
     try clear c16b1
     try clear c18
     try clear c18b0
     try clear c18b1
     try clear c25
     try clear hcz11_0
     try clear hcz11_1
     try clear hcz11_2
     try clear hcz11_3
     try clear hcz11_4
     try clear hcz11_5
     try clear hcz11_6
     try clear hcz15_0
     try clear hcz15_1
     try clear hcz15_2
     try clear hcz15_3
     try clear hcz15_4
     try clear hcz15_5
     try clear hcz15_6
     try clear hcz17_0
     try clear hcz17_1
     try clear hcz17_2
     try clear hcz17_3
     try clear hcz17_4
     try clear hcz17_5
     try clear hcz17_6
     try clear hcz19_0
     try clear hcz19_1
     try clear hcz19_2
     try clear hcz19_3
     try clear hcz19_4
     try clear hcz19_5
     try clear hcz19_6
     try clear hcz21_0
     try clear hcz21_1
     try clear hcz21_2
     try clear hcz21_3
     try clear hcz21_4
     try clear hcz21_5
     try clear hcz21_6
     try clear hcz22_0
     try clear hcz22_1
     try clear hcz22_2
     try clear hcz22_3
     try clear hcz22_4
     try clear hcz22_5
     try clear hcz22_6
     try clear hcz23_0
     try clear hcz23_1
     try clear hcz23_2
     try clear hcz23_3
     try clear hcz23_4
     try clear hcz23_5
     try clear hcz23_6
     try clear hcz24_0
     try clear hcz24_1
     try clear hcz24_2
     try clear hcz24_3
     try clear hcz24_4
     try clear hcz24_5
     try clear hcz24_6
     try clear hcz26_0
     try clear hcz26_1
     try clear hcz26_2
     try clear hcz26_3
     try clear hcz26_4
     try clear hcz26_5
     try clear hcz26_6
     try clear hcz9_0
     try clear hcz9_1
     try clear hcz9_2
     try clear hcz9_3
     try clear hcz9_4
     try clear hcz9_5
     try clear hcz9_6
     try clear hfz11_0
     try clear hfz11_1
     try clear hfz11_2
     try clear hfz11_3
     try clear hfz11_4
     try clear hfz11_5
     try clear hfz11_6
     try clear hfz15_0
     try clear hfz15_1
     try clear hfz15_2
     try clear hfz15_3
     try clear hfz15_4
     try clear hfz15_5
     try clear hfz15_6
     try clear hfz17_0
     try clear hfz17_1
     try clear hfz17_2
     try clear hfz17_3
     try clear hfz17_4
     try clear hfz17_5
     try clear hfz17_6
     try clear hfz19_0
     try clear hfz19_1
     try clear hfz19_2
     try clear hfz19_3
     try clear hfz19_4
     try clear hfz19_5
     try clear hfz19_6
     try clear hfz21_0
     try clear hfz21_1
     try clear hfz21_2
     try clear hfz21_3
     try clear hfz21_4
     try clear hfz21_5
     try clear hfz21_6
     try clear hfz22_0
     try clear hfz22_1
     try clear hfz22_2
     try clear hfz22_3
     try clear hfz22_4
     try clear hfz22_5
     try clear hfz22_6
     try clear hfz23_0
     try clear hfz23_1
     try clear hfz23_2
     try clear hfz23_3
     try clear hfz23_4
     try clear hfz23_5
     try clear hfz23_6
     try clear hfz24_0
     try clear hfz24_1
     try clear hfz24_2
     try clear hfz24_3
     try clear hfz24_4
     try clear hfz24_5
     try clear hfz24_6
     try clear hfz26_0
     try clear hfz26_1
     try clear hfz26_2
     try clear hfz26_3
     try clear hfz26_4
     try clear hfz26_5
     try clear hfz26_6
     try clear hfz9_0
     try clear hfz9_1
     try clear hfz9_2
     try clear hfz9_3
     try clear hfz9_4
     try clear hfz9_5
     try clear hfz9_6
     try clear p2
     obtain ⟨x69_2, rfl, HA, HK2, BK202, HB⟩ := hrel
     cases gk with
     | zero => exact absurd HA.out (by simp [impl_DrvOk.l0])
     | succ k2 =>
      have H := HA.out
      clear HA
      simp only [impl_DrvOk.l0] at H
      by_cases c27 : x69_2 < (l0_2.length : Int)
      ·rw [if_pos c27] at H
       have c27b0 : decide (x69_2 < (l0_2.length : Int)) = true := decide_eq_true c27
       clear c27
       by_cases c28 : 0 ≤ x69_2
       ·rw [if_pos c28] at H
        have c28b0 : decide (0 ≤ x69_2) = true := decide_eq_true c28
        clear c28
        by_cases c29 : x69_2 < (l0_2.length : Int)
        ·rw [if_pos c29] at H
         have c29b0 : decide (x69_2 < (l0_2.length : Int)) = true := decide_eq_true c29
         clear c29
         replace H := Option.bind_eq_some_iff.mp H
         obtain ⟨t208, A300, H⟩ := H
         replace H : (if t208 = true then (impl_DrvOk.l0 k2 l0_2 (l0_2.length : Int) (wrap64 (x69_2 + 1)) a0_0 a0_1 l0_2 a0_3 l0_4 l0_5 l0_6) else (some false)) = some r := H
         have A30 := Aside0.mk A300
         clear A300
         by_cases c31 : t208 = true
         ·subst c31
          have H1 : (impl_DrvOk.l0 k2 l0_2 (l0_2.length : Int) (wrap64 (x69_2 + 1)) a0_0 a0_1 l0_2 a0_3 l0_4 l0_5 l0_6) = some r := by rw [if_pos rfl] at H; exact H
          clear H
          have H := H1
          clear H1
          have H' := Aside0.mk H
          clear H
          have p207 : 0 ≤ (x69_2 : Int) := of_decide_eq_true (by first | (with_reducible assumption) | assumption)
          have q207 : x69_2 < (l0_2.length : Int) := of_decide_eq_true (by first | (with_reducible assumption) | assumption)
          obtain ⟨ad207, e207, hx207_0⟩ := Kd.at_string HR0_2.out x69_2 p207 q207
          cases e207
          try (replace hx207_0 := (HB.out.cell (World.block_lt_of_cell? w _ hx207_0)).trans hx207_0)
          replace p207 := eq_true p207
          replace q207 := eq_true q207
          go_wp2_with (first | (go_at_call 30; (with_reducible refine (impl_NameOk.calls k2 (rdOf ByteArray.empty l0_2 x69_2) true _ A30.out).mono ?_); rintro e w' ⟨rfl, ⟨nd, rfl⟩⟩; (try exact qD)))
          repeat (go_quiet (first | (go_at_call 30; (with_reducible refine (impl_NameOk.calls k2 (rdOf ByteArray.empty l0_2 x69_2) true _ A30.out).mono ?_); rintro e w' ⟨rfl, ⟨nd, rfl⟩⟩; (try exact qD))); try go_wp2_with (first | (go_at_call 30; (with_reducible refine (impl_NameOk.calls k2 (rdOf ByteArray.empty l0_2 x69_2) true _ A30.out).mono ?_); rintro e w' ⟨rfl, ⟨nd, rfl⟩⟩; (try exact qD))))
          go_roundg k2
          case measure => have := HJ1.out; have := HK2.out; omega
          case rel => exact ⟨(wrap64 (x69_2 + 1)), (by first | rfl | (simp; done) | (simp [*]; done)), H', ⟨by have := HJ1.out; have := HK2.out; omega⟩, ⟨by (with_reducible repeat (first | refine blk_drewN ?_ _ | refine blk_drew ?_ | refine blk_alloc ?_ _)); exact BK202.out⟩, ⟨by repeat (first | (with_reducible first | exact HB.out | apply below_alloc | apply pw_below_drewN | apply below_drew1 | refine below_set ?_ GE202.out) | exact HB.out)⟩⟩
         ·replace c31 := Bool.eq_false_iff.mpr c31
          subst c31
          have H1 : (some false) = some r := by rw [if_neg (show ¬ (false = true) by decide)] at H; exact H
          clear H
          have H := H1
          clear H1
          obtain rfl := Option.some.inj H
          have p207 : 0 ≤ (x69_2 : Int) := of_decide_eq_true (by first | (with_reducible assumption) | assumption)
          have q207 : x69_2 < (l0_2.length : Int) := of_decide_eq_true (by first | (with_reducible assumption) | assumption)
          obtain ⟨ad207, e207, hx207_0⟩ := Kd.at_string HR0_2.out x69_2 p207 q207
          cases e207
          try (replace hx207_0 := (HB.out.cell (World.block_lt_of_cell? w _ hx207_0)).trans hx207_0)
          replace p207 := eq_true p207
          replace q207 := eq_true q207
          go_wp2_with (first | (go_at_call 30; (with_reducible refine (impl_NameOk.calls k2 (rdOf ByteArray.empty l0_2 x69_2) false _ A30.out).mono ?_); rintro e w' ⟨rfl, ⟨nd, rfl⟩⟩; (try exact qD)))
          repeat (go_quiet (first | (go_at_call 30; (with_reducible refine (impl_NameOk.calls k2 (rdOf ByteArray.empty l0_2 x69_2) false _ A30.out).mono ?_); rintro e w' ⟨rfl, ⟨nd, rfl⟩⟩; (try exact qD))); try go_wp2_with (first | (go_at_call 30; (with_reducible refine (impl_NameOk.calls k2 (rdOf ByteArray.empty l0_2 x69_2) false _ A30.out).mono ?_); rintro e w' ⟨rfl, ⟨nd, rfl⟩⟩; (try exact qD))))
          go_ret
          exact ⟨by first | rfl | (simp [errW_none, errW_some] <;> rfl) | (simp [*, errW_none, errW_some] <;> rfl), by repeat (first | (with_reducible first | exact HB.out | apply below_alloc | apply pw_below_drewN | apply below_drew1 | refine below_set ?_ GE202.out) | exact HB.out)⟩
        ·rw [if_neg c29] at H
         exact absurd H (by simp)
       ·rw [if_neg c28] at H
        exact absurd H (by simp)
      ·rw [if_neg c27] at H
       have c27b0 : decide (x69_2 < (l0_2.length : Int)) = false := decide_eq_false c27
       clear c27
       have HC32 := Aside0.mk H
       clear H
       have hcz33_0 : wr.cell? ⟨gb202, 0, none⟩ = some (.string a0_0) := (blk_cell BK202.out 0).trans rfl
       have hcz33_1 : wr.cell? ⟨gb202, 1, none⟩ = some (.string a0_1) := (blk_cell BK202.out 1).trans rfl
       have hcz33_2 : wr.cell? ⟨gb202, 2, none⟩ = some (.slice A0_2 l0_2.length c0_2) := (blk_cell BK202.out 2).trans rfl
       have hcz33_3 : wr.cell? ⟨gb202, 3, none⟩ = some (.string a0_3) := (blk_cell BK202.out 3).trans rfl
       have hcz33_4 : wr.cell? ⟨gb202, 4, none⟩ = some (.slice A0_4 l0_4.length c0_4) := (blk_cell BK202.out 4).trans rfl
       have hcz33_5 : wr.cell? ⟨gb202, 5, none⟩ = some (.slice A0_5 l0_5.length c0_5) := (blk_cell BK202.out 5).trans rfl
       have hcz33_6 : wr.cell? ⟨gb202, 6, none⟩ = some (.slice A0_6 l0_6.length c0_6) := (blk_cell BK202.out 6).trans rfl
       have hfz33_0 := blk_frozen BK202.out 0
       have hfz33_1 := blk_frozen BK202.out 1
       have hfz33_2 := blk_frozen BK202.out 2
       have hfz33_3 := blk_frozen BK202.out 3
       have hfz33_4 := blk_frozen BK202.out 4
       have hfz33_5 := blk_frozen BK202.out 5
       have hfz33_6 := blk_frozen BK202.out 6
       go_upto_if 79 with (fail)
       repeat (go_quiet (fail); go_upto_if 79 with (fail))
       go_cut [] (fun wc => ∃ (kq : Nat), Aside0 (impl_DrvOk.j2 kq a0_0 a0_1 l0_2 a0_3 l0_4 l0_5 l0_6 = some r) ∧ Aside0 (kq ≤ k2) ∧ Aside0 (wc.heap[gb202]? = some (.cells #[.string a0_0, .string a0_1, (.slice A0_2 l0_2.length c0_2), .string a0_3, (.slice A0_4 l0_4.length c0_4), (.slice A0_5 l0_5.length c0_5), (.slice A0_6 l0_6.length c0_6)] 48 (0, 0))) ∧ Aside0 (Below w.heap.size w wc))
       case first =>
        have H := HC32.out
        clear HC32
        by_cases c34 : a0_3.toList = ([] : List UInt8)
        ·rw [if_pos c34] at H
         have c34b0 : (a0_3.toList == ([] : List UInt8)) = true := beq_iff_eq.mpr c34
         have c34E : a0_3.toList.isEmpty = true := by have h_ := c34b0; revert h_; cases a0_3.toList <;> intro h_ <;> first | rfl | (simp at h_)
         have c34b1 : (a0_3.toList != ([] : List UInt8)) = false := bne_eq_false_iff_eq.mpr c34
         clear c34
         (first | rw [c34b0] | rw [c34E] | rw [c34E] | (simp only [i64_w, i32_w]; rw [c34b0]) | skip)
         have H' := Aside0.mk H
         clear H
         go_wp2
         repeat (go_quiet (fail); try go_wp2)
         go_meet
         case rel => exact ⟨_, H', ⟨by have := HJ1.out; have := HK2.out; first | omega | exact Nat.le_refl _⟩, ⟨by (with_reducible repeat (first | refine blk_drewN ?_ _ | refine blk_drew ?_ | refine blk_alloc ?_ _)); exact BK202.out⟩, ⟨by repeat (first | (with_reducible first | exact HB.out | apply below_alloc | apply pw_below_drewN | apply below_drew1 | refine below_set ?_ GE202.out) | exact HB.out)⟩⟩
        ·rw [if_neg c34] at H
         have c34b0 : (a0_3.toList == ([] : List UInt8)) = false := beq_eq_false_iff_ne.mpr c34
         have c34E : a0_3.toList.isEmpty = false := by have h_ := c34b0; revert h_; cases a0_3.toList <;> intro h_ <;> first | rfl | (simp at h_)
         have c34b1 : (a0_3.toList != ([] : List UInt8)) = true := bne_iff_ne.mpr c34
         (first | rw [c34b0] | rw [c34E] | rw [c34E] | (simp only [i64_w, i32_w]; rw [c34b0]) | skip)
         replace H := Option.bind_eq_some_iff.mp H
         obtain ⟨⟨t209, t210⟩, A350, H⟩ := H
         replace H : (if t210 = true then (if (l0_2.length : Int) = 1 then (if 0 < (l0_2.length : Int) then (if (rdOf ByteArray.empty l0_2 0).toList = ([111, 117, 116] : List UInt8) then (impl_DrvOk.j2 k2 a0_0 a0_1 l0_2 a0_3 l0_4 l0_5 l0_6) else (some false)) else (none)) else (some false)) else (some false)) = some r := H
         have A35 := Aside0.mk A350
         clear A350
         by_cases c36 : t210 = true
         ·subst c36
          have H1 : (if (l0_2.length : Int) = 1 then (if 0 < (l0_2.length : Int) then (if (rdOf ByteArray.empty l0_2 0).toList = ([111, 117, 116] : List UInt8) then (impl_DrvOk.j2 k2 a0_0 a0_1 l0_2 a0_3 l0_4 l0_5 l0_6) else (some false)) else (none)) else (some false)) = some r := by rw [if_pos rfl] at H; exact H
          clear H
          have H := H1
          clear H1
          by_cases c37 : (l0_2.length : Int) = 1
          ·rw [if_pos c37] at H
           have c37b0 : ((l0_2.length : Int) == 1) = true := beq_iff_eq.mpr c37
           have c37b1 : ((l0_2.length : Int) != 1) = false := bne_eq_false_iff_eq.mpr c37
           clear c37
           by_cases c38 : 0 < (l0_2.length : Int)
           ·rw [if_pos c38] at H
            have c38b0 : decide (0 < (l0_2.length : Int)) = true := decide_eq_true c38
            have c38b1 : decide (0 < l0_2.length) = true := decide_eq_true (by omega)
            clear c38
            by_cases c39 : (rdOf ByteArray.empty l0_2 0).toList = ([111, 117, 116] : List UInt8)
            ·rw [if_pos c39] at H
             have c39b0 : ((rdOf ByteArray.empty l0_2 0).toList == ([111, 117, 116] : List UInt8)) = true := beq_iff_eq.mpr c39
             have c39b1 : ((rdOf ByteArray.empty l0_2 0).toList != ([111, 117, 116] : List UInt8)) = false := bne_eq_false_iff_eq.mpr c39
             clear c39
             have H' := Aside0.mk H
             clear H
             have hcz40_0 : wr.cell? ⟨gb202, 0, none⟩ = some (.string a0_0) := (blk_cell BK202.out 0).trans rfl
             have hcz40_1 : wr.cell? ⟨gb202, 1, none⟩ = some (.string a0_1) := (blk_cell BK202.out 1).trans rfl
             have hcz40_2 : wr.cell? ⟨gb202, 2, none⟩ = some (.slice A0_2 l0_2.length c0_2) := (blk_cell BK202.out 2).trans rfl
             have hcz40_3 : wr.cell? ⟨gb202, 3, none⟩ = some (.string a0_3) := (blk_cell BK202.out 3).trans rfl
             have hcz40_4 : wr.cell? ⟨gb202, 4, none⟩ = some (.slice A0_4 l0_4.length c0_4) := (blk_cell BK202.out 4).trans rfl
             have hcz40_5 : wr.cell? ⟨gb202, 5, none⟩ = some (.slice A0_5 l0_5.length c0_5) := (blk_cell BK202.out 5).trans rfl
             have hcz40_6 : wr.cell? ⟨gb202, 6, none⟩ = some (.slice A0_6 l0_6.length c0_6) := (blk_cell BK202.out 6).trans rfl
             have hfz40_0 := blk_frozen BK202.out 0
             have hfz40_1 := blk_frozen BK202.out 1
             have hfz40_2 := blk_frozen BK202.out 2
             have hfz40_3 := blk_frozen BK202.out 3
             have hfz40_4 := blk_frozen BK202.out 4
             have hfz40_5 := blk_frozen BK202.out 5
             have hfz40_6 := blk_frozen BK202.out 6
             go_wp2_with (first | (go_at_call 16; (with_reducible refine (impl_ReadWord32.calls k2 a0_3 t209 true _ A35.out).mono ?_); rintro e w' ⟨rfl, ⟨nd, rfl⟩⟩; (try exact qD); have p211 : 0 ≤ (0 : Int) := (by omega); have q211 : 0 < (l0_2.length : Int) := of_decide_eq_true (by first | (with_reducible assumption) | assumption); obtain ⟨ad211, e211, hx211_0⟩ := Kd.at_string HR0_2.out 0 p211 q211; cases e211; have qi211 : (0 < l0_2.length) = True := eq_true (by omega); (try rw [show ((0 : Int)).toNat = 0 from rfl] at hx211_0); (try rw [Addr.add_zero'] at hx211_0); replace hx211_0 := (HB.out.cell (World.block_lt_of_cell? w _ hx211_0)).trans hx211_0; replace p211 := eq_true p211; replace q211 := eq_true q211))
             repeat (go_quiet (first | (go_at_call 16; (with_reducible refine (impl_ReadWord32.calls k2 a0_3 t209 true _ A35.out).mono ?_); rintro e w' ⟨rfl, ⟨nd, rfl⟩⟩; (try exact qD); have p211 : 0 ≤ (0 : Int) := (by omega); have q211 : 0 < (l0_2.length : Int) := of_decide_eq_true (by first | (with_reducible assumption) | assumption); obtain ⟨ad211, e211, hx211_0⟩ := Kd.at_string HR0_2.out 0 p211 q211; cases e211; have qi211 : (0 < l0_2.length) = True := eq_true (by omega); (try rw [show ((0 : Int)).toNat = 0 from rfl] at hx211_0); (try rw [Addr.add_zero'] at hx211_0); replace hx211_0 := (HB.out.cell (World.block_lt_of_cell? w _ hx211_0)).trans hx211_0; replace p211 := eq_true p211; replace q211 := eq_true q211)); try go_wp2_with (first | (go_at_call 16; (with_reducible refine (impl_ReadWord32.calls k2 a0_3 t209 true _ A35.out).mono ?_); rintro e w' ⟨rfl, ⟨nd, rfl⟩⟩; (try exact qD); have p211 : 0 ≤ (0 : Int) := (by omega); have q211 : 0 < (l0_2.length : Int) := of_decide_eq_true (by first | (with_reducible assumption) | assumption); obtain ⟨ad211, e211, hx211_0⟩ := Kd.at_string HR0_2.out 0 p211 q211; cases e211; have qi211 : (0 < l0_2.length) = True := eq_true (by omega); (try rw [show ((0 : Int)).toNat = 0 from rfl] at hx211_0); (try rw [Addr.add_zero'] at hx211_0); replace hx211_0 := (HB.out.cell (World.block_lt_of_cell? w _ hx211_0)).trans hx211_0; replace p211 := eq_true p211; replace q211 := eq_true q211)))
             go_meet
             case rel => exact ⟨_, H', ⟨by have := HJ1.out; have := HK2.out; first | omega | exact Nat.le_refl _⟩, ⟨by (with_reducible repeat (first | refine blk_drewN ?_ _ | refine blk_drew ?_ | refine blk_alloc ?_ _)); exact BK202.out⟩, ⟨by repeat (first | (with_reducible first | exact HB.out | apply below_alloc | apply pw_below_drewN | apply below_drew1 | refine below_set ?_ GE202.out) | exact HB.out)⟩⟩
            ·rw [if_neg c39] at H
             have c39b0 : ((rdOf ByteArray.empty l0_2 0).toList == ([111, 117, 116] : List UInt8)) = false := beq_eq_false_iff_ne.mpr c39
             have c39b1 : ((rdOf ByteArray.empty l0_2 0).toList != ([111, 117, 116] : List UInt8)) = true := bne_iff_ne.mpr c39
             obtain rfl := Option.some.inj H
             have hcz41_0 : wr.cell? ⟨gb202, 0, none⟩ = some (.string a0_0) := (blk_cell BK202.out 0).trans rfl
             have hcz41_1 : wr.cell? ⟨gb202, 1, none⟩ = some (.string a0_1) := (blk_cell BK202.out 1).trans rfl
             have hcz41_2 : wr.cell? ⟨gb202, 2, none⟩ = some (.slice A0_2 l0_2.length c0_2) := (blk_cell BK202.out 2).trans rfl
             have hcz41_3 : wr.cell? ⟨gb202, 3, none⟩ = some (.string a0_3) := (blk_cell BK202.out 3).trans rfl
             have hcz41_4 : wr.cell? ⟨gb202, 4, none⟩ = some (.slice A0_4 l0_4.length c0_4) := (blk_cell BK202.out 4).trans rfl
             have hcz41_5 : wr.cell? ⟨gb202, 5, none⟩ = some (.slice A0_5 l0_5.length c0_5) := (blk_cell BK202.out 5).trans rfl
             have hcz41_6 : wr.cell? ⟨gb202, 6, none⟩ = some (.slice A0_6 l0_6.length c0_6) := (blk_cell BK202.out 6).trans rfl
             have hfz41_0 := blk_frozen BK202.out 0
             have hfz41_1 := blk_frozen BK202.out 1
             have hfz41_2 := blk_frozen BK202.out 2
             have hfz41_3 := blk_frozen BK202.out 3
             have hfz41_4 := blk_frozen BK202.out 4
             have hfz41_5 := blk_frozen BK202.out 5
             have hfz41_6 := blk_frozen BK202.out 6
             go_wp2_with (first | (go_at_call 16; (with_reducible refine (impl_ReadWord32.calls k2 a0_3 t209 true _ A35.out).mono ?_); rintro e w' ⟨rfl, ⟨nd, rfl⟩⟩; (try exact qD); have p211 : 0 ≤ (0 : Int) := (by omega); have q211 : 0 < (l0_2.length : Int) := of_decide_eq_true (by first | (with_reducible assumption) | assumption); obtain ⟨ad211, e211, hx211_0⟩ := Kd.at_string HR0_2.out 0 p211 q211; cases e211; have qi211 : (0 < l0_2.length) = True := eq_true (by omega); (try rw [show ((0 : Int)).toNat = 0 from rfl] at hx211_0); (try rw [Addr.add_zero'] at hx211_0); replace hx211_0 := (HB.out.cell (World.block_lt_of_cell? w _ hx211_0)).trans hx211_0; replace p211 := eq_true p211; replace q211 := eq_true q211))
             repeat (go_quiet (first | (go_at_call 16; (with_reducible refine (impl_ReadWord32.calls k2 a0_3 t209 true _ A35.out).mono ?_); rintro e w' ⟨rfl, ⟨nd, rfl⟩⟩; (try exact qD); have p211 : 0 ≤ (0 : Int) := (by omega); have q211 : 0 < (l0_2.length : Int) := of_decide_eq_true (by first | (with_reducible assumption) | assumption); obtain ⟨ad211, e211, hx211_0⟩ := Kd.at_string HR0_2.out 0 p211 q211; cases e211; have qi211 : (0 < l0_2.length) = True := eq_true (by omega); (try rw [show ((0 : Int)).toNat = 0 from rfl] at hx211_0); (try rw [Addr.add_zero'] at hx211_0); replace hx211_0 := (HB.out.cell (World.block_lt_of_cell? w _ hx211_0)).trans hx211_0; replace p211 := eq_true p211; replace q211 := eq_true q211)); try go_wp2_with (first | (go_at_call 16; (with_reducible refine (impl_ReadWord32.calls k2 a0_3 t209 true _ A35.out).mono ?_); rintro e w' ⟨rfl, ⟨nd, rfl⟩⟩; (try exact qD); have p211 : 0 ≤ (0 : Int) := (by omega); have q211 : 0 < (l0_2.length : Int) := of_decide_eq_true (by first | (with_reducible assumption) | assumption); obtain ⟨ad211, e211, hx211_0⟩ := Kd.at_string HR0_2.out 0 p211 q211; cases e211; have qi211 : (0 < l0_2.length) = True := eq_true (by omega); (try rw [show ((0 : Int)).toNat = 0 from rfl] at hx211_0); (try rw [Addr.add_zero'] at hx211_0); replace hx211_0 := (HB.out.cell (World.block_lt_of_cell? w _ hx211_0)).trans hx211_0; replace p211 := eq_true p211; replace q211 := eq_true q211)))
             go_ret
             exact ⟨by first | rfl | (simp [errW_none, errW_some] <;> rfl) | (simp [*, errW_none, errW_some] <;> rfl), by repeat (first | (with_reducible first | exact HB.out | apply below_alloc | apply pw_below_drewN | apply below_drew1 | refine below_set ?_ GE202.out) | exact HB.out)⟩
           ·rw [if_neg c38] at H
            exact absurd H (by simp)
          ·rw [if_neg c37] at H
           have c37b0 : ((l0_2.length : Int) == 1) = false := beq_eq_false_iff_ne.mpr c37
           have c37b1 : ((l0_2.length : Int) != 1) = true := bne_iff_ne.mpr c37
           obtain rfl := Option.some.inj H
           have hcz42_0 : wr.cell? ⟨gb202, 0, none⟩ = some (.string a0_0) := (blk_cell BK202.out 0).trans rfl
           have hcz42_1 : wr.cell? ⟨gb202, 1, none⟩ = some (.string a0_1) := (blk_cell BK202.out 1).trans rfl
           have hcz42_2 : wr.cell? ⟨gb202, 2, none⟩ = some (.slice A0_2 l0_2.length c0_2) := (blk_cell BK202.out 2).trans rfl
           have hcz42_3 : wr.cell? ⟨gb202, 3, none⟩ = some (.string a0_3) := (blk_cell BK202.out 3).trans rfl
           have hcz42_4 : wr.cell? ⟨gb202, 4, none⟩ = some (.slice A0_4 l0_4.length c0_4) := (blk_cell BK202.out 4).trans rfl
           have hcz42_5 : wr.cell? ⟨gb202, 5, none⟩ = some (.slice A0_5 l0_5.length c0_5) := (blk_cell BK202.out 5).trans rfl
           have hcz42_6 : wr.cell? ⟨gb202, 6, none⟩ = some (.slice A0_6 l0_6.length c0_6) := (blk_cell BK202.out 6).trans rfl
           have hfz42_0 := blk_frozen BK202.out 0
           have hfz42_1 := blk_frozen BK202.out 1
           have hfz42_2 := blk_frozen BK202.out 2
           have hfz42_3 := blk_frozen BK202.out 3
           have hfz42_4 := blk_frozen BK202.out 4
           have hfz42_5 := blk_frozen BK202.out 5
           have hfz42_6 := blk_frozen BK202.out 6
           go_wp2_with (first | (go_at_call 16; (with_reducible refine (impl_ReadWord32.calls k2 a0_3 t209 true _ A35.out).mono ?_); rintro e w' ⟨rfl, ⟨nd, rfl⟩⟩; (try exact qD)))
           repeat (go_quiet (first | (go_at_call 16; (with_reducible refine (impl_ReadWord32.calls k2 a0_3 t209 true _ A35.out).mono ?_); rintro e w' ⟨rfl, ⟨nd, rfl⟩⟩; (try exact qD))); try go_wp2_with (first | (go_at_call 16; (with_reducible refine (impl_ReadWord32.calls k2 a0_3 t209 true _ A35.out).mono ?_); rintro e w' ⟨rfl, ⟨nd, rfl⟩⟩; (try exact qD))))
           go_ret
           exact ⟨by first | rfl | (simp [errW_none, errW_some] <;> rfl) | (simp [*, errW_none, errW_some] <;> rfl), by repeat (first | (with_reducible first | exact HB.out | apply below_alloc | apply pw_below_drewN | apply below_drew1 | refine below_set ?_ GE202.out) | exact HB.out)⟩
         ·replace c36 := Bool.eq_false_iff.mpr c36
          subst c36
          have H1 : (some false) = some r := by rw [if_neg (show ¬ (false = true) by decide)] at H; exact H
          clear H
          have H := H1
          clear H1
          obtain rfl := Option.some.inj H
          have hcz43_0 : wr.cell? ⟨gb202, 0, none⟩ = some (.string a0_0) := (blk_cell BK202.out 0).trans rfl
          have hcz43_1 : wr.cell? ⟨gb202, 1, none⟩ = some (.string a0_1) := (blk_cell BK202.out 1).trans rfl
          have hcz43_2 : wr.cell? ⟨gb202, 2, none⟩ = some (.slice A0_2 l0_2.length c0_2) := (blk_cell BK202.out 2).trans rfl
          have hcz43_3 : wr.cell? ⟨gb202, 3, none⟩ = some (.string a0_3) := (blk_cell BK202.out 3).trans rfl
          have hcz43_4 : wr.cell? ⟨gb202, 4, none⟩ = some (.slice A0_4 l0_4.length c0_4) := (blk_cell BK202.out 4).trans rfl
          have hcz43_5 : wr.cell? ⟨gb202, 5, none⟩ = some (.slice A0_5 l0_5.length c0_5) := (blk_cell BK202.out 5).trans rfl
          have hcz43_6 : wr.cell? ⟨gb202, 6, none⟩ = some (.slice A0_6 l0_6.length c0_6) := (blk_cell BK202.out 6).trans rfl
          have hfz43_0 := blk_frozen BK202.out 0
          have hfz43_1 := blk_frozen BK202.out 1
          have hfz43_2 := blk_frozen BK202.out 2
          have hfz43_3 := blk_frozen BK202.out 3
          have hfz43_4 := blk_frozen BK202.out 4
          have hfz43_5 := blk_frozen BK202.out 5
          have hfz43_6 := blk_frozen BK202.out 6
          go_wp2_with (first | (go_at_call 16; (with_reducible refine (impl_ReadWord32.calls k2 a0_3 t209 false _ A35.out).mono ?_); rintro e w' ⟨rfl, ⟨nd, rfl⟩⟩; (try exact qD)))
          repeat (go_quiet (first | (go_at_call 16; (with_reducible refine (impl_ReadWord32.calls k2 a0_3 t209 false _ A35.out).mono ?_); rintro e w' ⟨rfl, ⟨nd, rfl⟩⟩; (try exact qD))); try go_wp2_with (first | (go_at_call 16; (with_reducible refine (impl_ReadWord32.calls k2 a0_3 t209 false _ A35.out).mono ?_); rintro e w' ⟨rfl, ⟨nd, rfl⟩⟩; (try exact qD))))
          go_ret
          exact ⟨by first | rfl | (simp [errW_none, errW_some] <;> rfl) | (simp [*, errW_none, errW_some] <;> rfl), by repeat (first | (with_reducible first | exact HB.out | apply below_alloc | apply pw_below_drewN | apply below_drew1 | refine below_set ?_ GE202.out) | exact HB.out)⟩
       case rest =>
        clear HC32
        try clear c1
        try clear c2
        try clear p2
        try clear q2
        try clear hx2
        try clear qi2
        try clear c3
        try clear c5
        try clear p6
        try clear c7
        try clear c8
        try clear c8b0
        try clear c8b1
        try clear c10
        try clear c10b0
        try clear c10b1
        try clear c13
        try clear c14
        try clear c14b0
        try clear c14b1
        try clear c16
        try clear c16b0
        try clear c16b1
        try clear c18
        try clear c18b0
        try clear c18b1
        try clear p20
        try clear q20
        try clear hx20
        try clear p21
        try clear q21
        try clear hx21
        try clear qi21
        try clear c25
        try clear c27
        try clear c27b0
        try clear c28
        try clear c28b0
        try clear c29
        try clear c29b0
        try clear c31
        try clear c34
        try clear c34b0
        try clear c34b1
        try clear c36
        try clear c37
        try clear c37b0
        try clear c37b1
        try clear c38
        try clear c38b0
        try clear c38b1
        try clear c39
        try clear c39b0
        try clear c39b1
        try clear hcz11_0
        try clear hcz11_1
        try clear hcz11_2
        try clear hcz11_3
        try clear hcz11_4
        try clear hcz11_5
        try clear hcz11_6
        try clear hcz15_0
        try clear hcz15_1
        try clear hcz15_2
        try clear hcz15_3
        try clear hcz15_4
        try clear hcz15_5
        try clear hcz15_6
        try clear hcz17_0
        try clear hcz17_1
        try clear hcz17_2
        try clear hcz17_3
        try clear hcz17_4
        try clear hcz17_5
        try clear hcz17_6
        try clear hcz19_0
        try clear hcz19_1
        try clear hcz19_2
        try clear hcz19_3
        try clear hcz19_4
        try clear hcz19_5
        try clear hcz19_6
        try clear hcz21_0
        try clear hcz21_1
        try clear hcz21_2
        try clear hcz21_3
        try clear hcz21_4
        try clear hcz21_5
        try clear hcz21_6
        try clear hcz22_0
        try clear hcz22_1
        try clear hcz22_2
        try clear hcz22_3
        try clear hcz22_4
        try clear hcz22_5
        try clear hcz22_6
        try clear hcz23_0
        try clear hcz23_1
        try clear hcz23_2
        try clear hcz23_3
        try clear hcz23_4
        try clear hcz23_5
        try clear hcz23_6
        try clear hcz24_0
        try clear hcz24_1
        try clear hcz24_2
        try clear hcz24_3
        try clear hcz24_4
        try clear hcz24_5
        try clear hcz24_6
        try clear hcz26_0
        try clear hcz26_1
        try clear hcz26_2
        try clear hcz26_3
        try clear hcz26_4
        try clear hcz26_5
        try clear hcz26_6
        try clear hcz33_0
        try clear hcz33_1
        try clear hcz33_2
        try clear hcz33_3
        try clear hcz33_4
        try clear hcz33_5
        try clear hcz33_6
        try clear hcz40_0
        try clear hcz40_1
        try clear hcz40_2
        try clear hcz40_3
        try clear hcz40_4
        try clear hcz40_5
        try clear hcz40_6
        try clear hcz41_0
        try clear hcz41_1
        try clear hcz41_2
        try clear hcz41_3
        try clear hcz41_4
        try clear hcz41_5
        try clear hcz41_6
        try clear hcz42_0
        try clear hcz42_1
        try clear hcz42_2
        try clear hcz42_3
        try clear hcz42_4
        try clear hcz42_5
        try clear hcz42_6
        try clear hcz43_0
        try clear hcz43_1
        try clear hcz43_2
        try clear hcz43_3
        try clear hcz43_4
        try clear hcz43_5
        try clear hcz43_6
        try clear hcz9_0
        try clear hcz9_1
        try clear hcz9_2
        try clear hcz9_3
        try clear hcz9_4
        try clear hcz9_5
        try clear hcz9_6
        try clear hfz11_0
        try clear hfz11_1
        try clear hfz11_2
        try clear hfz11_3
        try clear hfz11_4
        try clear hfz11_5
        try clear hfz11_6
        try clear hfz15_0
        try clear hfz15_1
        try clear hfz15_2
        try clear hfz15_3
        try clear hfz15_4
        try clear hfz15_5
        try clear hfz15_6
        try clear hfz17_0
        try clear hfz17_1
        try clear hfz17_2
        try clear hfz17_3
        try clear hfz17_4
        try clear hfz17_5
        try clear hfz17_6
        try clear hfz19_0
        try clear hfz19_1
        try clear hfz19_2
        try clear hfz19_3
        try clear hfz19_4
        try clear hfz19_5
        try clear hfz19_6
        try clear hfz21_0
        try clear hfz21_1
        try clear hfz21_2
        try clear hfz21_3
        try clear hfz21_4
        try clear hfz21_5
        try clear hfz21_6
        try clear hfz22_0
        try clear hfz22_1
        try clear hfz22_2
        try clear hfz22_3
        try clear hfz22_4
        try clear hfz22_5
        try clear hfz22_6
        try clear hfz23_0
        try clear hfz23_1
        try clear hfz23_2
        try clear hfz23_3
        try clear hfz23_4
        try clear hfz23_5
        try clear hfz23_6
        try clear hfz24_0
        try clear hfz24_1
        try clear hfz24_2
        try clear hfz24_3
        try clear hfz24_4
        try clear hfz24_5
        try clear hfz24_6
        try clear hfz26_0
        try clear hfz26_1
        try clear hfz26_2
        try clear hfz26_3
        try clear hfz26_4
        try clear hfz26_5
        try clear hfz26_6
        try clear hfz33_0
        try clear hfz33_1
        try clear hfz33_2
        try clear hfz33_3
        try clear hfz33_4
        try clear hfz33_5
        try clear hfz33_6
        try clear hfz40_0
        try clear hfz40_1
        try clear hfz40_2
        try clear hfz40_3
        try clear hfz40_4
        try clear hfz40_5
        try clear hfz40_6
        try clear hfz41_0
        try clear hfz41_1
        try clear hfz41_2
        try clear hfz41_3
        try clear hfz41_4
        try clear hfz41_5
        try clear hfz41_6
        try clear hfz42_0
        try clear hfz42_1
        try clear hfz42_2
        try clear hfz42_3
        try clear hfz42_4
        try clear hfz42_5
        try clear hfz42_6
        try clear hfz43_0
        try clear hfz43_1
        try clear hfz43_2
        try clear hfz43_3
        try clear hfz43_4
        try clear hfz43_5
        try clear hfz43_6
        try clear hfz9_0
        try clear hfz9_1
        try clear hfz9_2
        try clear hfz9_3
        try clear hfz9_4
        try clear hfz9_5
        try clear hfz9_6
        try clear hx207_0
        try clear hx211_0
        try clear p2
        try clear p207
        try clear p211
        try clear q207
        try clear q211
        obtain ⟨kq, HA, HJ31, BK202, HB⟩ := hcut
        cases kq with
        | zero => exact absurd HA.out (by simp [impl_DrvOk.j2])
        | succ kj31 =>
         have H := HA.out
         clear HA
         simp only [impl_DrvOk.j2] at H
         have H' := Aside0.mk H
         clear H
         have hcz44_0 : wc.cell? ⟨gb202, 0, none⟩ = some (.string a0_0) := (blk_cell BK202.out 0).trans rfl
         have hcz44_1 : wc.cell? ⟨gb202, 1, none⟩ = some (.string a0_1) := (blk_cell BK202.out 1).trans rfl
         have hcz44_2 : wc.cell? ⟨gb202, 2, none⟩ = some (.slice A0_2 l0_2.length c0_2) := (blk_cell BK202.out 2).trans rfl
         have hcz44_3 : wc.cell? ⟨gb202, 3, none⟩ = some (.string a0_3) := (blk_cell BK202.out 3).trans rfl
         have hcz44_4 : wc.cell? ⟨gb202, 4, none⟩ = some (.slice A0_4 l0_4.length c0_4) := (blk_cell BK202.out 4).trans rfl
         have hcz44_5 : wc.cell? ⟨gb202, 5, none⟩ = some (.slice A0_5 l0_5.length c0_5) := (blk_cell BK202.out 5).trans rfl
         have hcz44_6 : wc.cell? ⟨gb202, 6, none⟩ = some (.slice A0_6 l0_6.length c0_6) := (blk_cell BK202.out 6).trans rfl
         have hfz44_0 := blk_frozen BK202.out 0
         have hfz44_1 := blk_frozen BK202.out 1
         have hfz44_2 := blk_frozen BK202.out 2
         have hfz44_3 := blk_frozen BK202.out 3
         have hfz44_4 := blk_frozen BK202.out 4
         have hfz44_5 := blk_frozen BK202.out 5
         have hfz44_6 := blk_frozen BK202.out 6
         go_wp2
         repeat (go_quiet (fail); try go_wp2)
         go_loopg [104] kj31 (fun kq v104 w' => ∃ (x104_4 : Int), v104 = .int .i64 x104_4 ∧ Aside0 (impl_DrvOk.l1 kq l0_4 (l0_4.length : Int) x104_4 a0_0 a0_1 l0_2 a0_3 l0_4 l0_5 l0_6 = some r) ∧ Aside0 (kq ≤ kj31) ∧ Aside0 (w'.heap[gb202]? = some (.cells #[.string a0_0, .string a0_1, (.slice A0_2 l0_2.length c0_2), .string a0_3, (.slice A0_4 l0_4.length c0_4), (.slice A0_5 l0_5.length c0_5), (.slice A0_6 l0_6.length c0_6)] 48 (0, 0))) ∧ Aside0 (Below w.heap.size w w'))
         case atStart => exact ⟨(0), (by first | rfl | (simp; done) | (simp [*]; done)), H', ⟨Nat.le_refl _⟩, ⟨by (with_reducible repeat (first | refine blk_drewN ?_ _ | refine blk_drew ?_ | refine blk_alloc ?_ _)); exact BK202.out⟩, ⟨by repeat (first | (with_reducible first | exact HB.out | apply below_alloc | apply pw_below_drewN | apply below_drew1 | refine below_set ?_ GE202.out) | exact HB.out)⟩⟩
         case round =>
          clear H'
          try clear c1
          try clear c2
          try clear p2
          try clear q2
          try clear hx2
          try clear qi2
          try clear c3
          try clear c5
          try clear p6
          try clear c7
          try clear c8
          try clear c8b0
          try clear c8b1
          try clear c10
          try clear c10b0
          try clear c10b1
          try clear c13
          try clear c14
          try clear c14b0
          try clear c14b1
          try clear c16
          try clear c16b0
          try clear c16b1
          try clear c18
          try clear c18b0
          try clear c18b1
          try clear p20
          try clear q20
          try clear hx20
          try clear p21
          try clear q21
          try clear hx21
          try clear qi21
          try clear c25
          try clear c27
          try clear c27b0
          try clear c28
          try clear c28b0
          try clear c29
          try clear c29b0
          try clear c31
          try clear c34
          try clear c34b0
          try clear c34b1
          try clear c36
          try clear c37
          try clear c37b0
          try clear c37b1
          try clear c38
          try clear c38b0
          try clear c38b1
          try clear c39
          try clear c39b0
          try clear c39b1
          try clear hcz11_0
          try clear hcz11_1
          try clear hcz11_2
          try clear hcz11_3
          try clear hcz11_4
          try clear hcz11_5
          try clear hcz11_6
          try clear hcz15_0
          try clear hcz15_1
          try clear hcz15_2
          try clear hcz15_3
          try clear hcz15_4
          try clear hcz15_5
          try clear hcz15_6
          try clear hcz17_0
          try clear hcz17_1
          try clear hcz17_2
          try clear hcz17_3
          try clear hcz17_4
          try clear hcz17_5
          try clear hcz17_6
          try clear hcz19_0
          try clear hcz19_1
          try clear hcz19_2
          try clear hcz19_3
          try clear hcz19_4
          try clear hcz19_5
          try clear hcz19_6
          try clear hcz21_0
          try clear hcz21_1
          try clear hcz21_2
          try clear hcz21_3
          try clear hcz21_4
          try clear hcz21_5
          try clear hcz21_6
          try clear hcz22_0
          try clear hcz22_1
          try clear hcz22_2
          try clear hcz22_3
          try clear hcz22_4
          try clear hcz22_5
          try clear hcz22_6
          try clear hcz23_0
          try clear hcz23_1
          try clear hcz23_2
          try clear hcz23_3
          try clear hcz23_4
          try clear hcz23_5
          try clear hcz23_6
          try clear hcz24_0
          try clear hcz24_1
          try clear hcz24_2
          try clear hcz24_3
          try clear hcz24_4
          try clear hcz24_5
          try clear hcz24_6
          try clear hcz26_0
          try clear hcz26_1
          try clear hcz26_2
          try clear hcz26_3
          try clear hcz26_4
          try clear hcz26_5
          try clear hcz26_6
          try clear hcz33_0
          try clear hcz33_1
          try clear hcz33_2
          try clear hcz33_3
          try clear hcz33_4
          try clear hcz33_5
          try clear hcz33_6
          try clear hcz40_0
          try clear hcz40_1
          try clear hcz40_2
          try clear hcz40_3
          try clear hcz40_4
          try clear hcz40_5
          try clear hcz40_6
          try clear hcz41_0
          try clear hcz41_1
          try clear hcz41_2
          try clear hcz41_3
          try clear hcz41_4
          try clear hcz41_5
          try clear hcz41_6
          try clear hcz42_0
          try clear hcz42_1
          try clear hcz42_2
          try clear hcz42_3
          try clear hcz42_4
          try clear hcz42_5
          try clear hcz42_6
          try clear hcz43_0
          try clear hcz43_1
          try clear hcz43_2
          try clear hcz43_3
          try clear hcz43_4
          try clear hcz43_5
          try clear hcz43_6
          try clear hcz44_0
          try clear hcz44_1
          try clear hcz44_2
          try clear hcz44_3
          try clear hcz44_4
          try clear hcz44_5
          try clear hcz44_6
          try clear hcz9_0
          try clear hcz9_1
          try clear hcz9_2
          try clear hcz9_3
          try clear hcz9_4
          try clear hcz9_5
          try clear hcz9_6
          try clear hfz11_0
          try clear hfz11_1
          try clear hfz11_2
          try clear hfz11_3
          try clear hfz11_4
          try clear hfz11_5
          try clear hfz11_6
          try clear hfz15_0
          try clear hfz15_1
          try clear hfz15_2
          try clear hfz15_3
          try clear hfz15_4
          try clear hfz15_5
          try clear hfz15_6
          try clear hfz17_0
          try clear hfz17_1
          try clear hfz17_2
          try clear hfz17_3
          try clear hfz17_4
          try clear hfz17_5
          try clear hfz17_6
          try clear hfz19_0
          try clear hfz19_1
          try clear hfz19_2
          try clear hfz19_3
          try clear hfz19_4
          try clear hfz19_5
          try clear hfz19_6
          try clear hfz21_0
          try clear hfz21_1
          try clear hfz21_2
          try clear hfz21_3
          try clear hfz21_4
          try clear hfz21_5
          try clear hfz21_6
          try clear hfz22_0
          try clear hfz22_1
          try clear hfz22_2
          try clear hfz22_3
          try clear hfz22_4
          try clear hfz22_5
          try clear hfz22_6
          try clear hfz23_0
          try clear hfz23_1
          try clear hfz23_2
          try clear hfz23_3
          try clear hfz23_4
          try clear hfz23_5
          try clear hfz23_6
          try clear hfz24_0
          try clear hfz24_1
          try clear hfz24_2
          try clear hfz24_3
          try clear hfz24_4
          try clear hfz24_5
          try clear hfz24_6
          try clear hfz26_0
          try clear hfz26_1
          try clear hfz26_2
          try clear hfz26_3
          try clear hfz26_4
          try clear hfz26_5
          try clear hfz26_6
          try clear hfz33_0
          try clear hfz33_1
          try clear hfz33_2
          try clear hfz33_3
          try clear hfz33_4
          try clear hfz33_5
          try clear hfz33_6
          try clear hfz40_0
          try clear hfz40_1
          try clear hfz40_2
          try clear hfz40_3
          try clear hfz40_4
          try clear hfz40_5
          try clear hfz40_6
          try clear hfz41_0
          try clear hfz41_1
          try clear hfz41_2
          try clear hfz41_3
          try clear hfz41_4
          try clear hfz41_5
          try clear hfz41_6
          try clear hfz42_0
          try clear hfz42_1
          try clear hfz42_2
          try clear hfz42_3
          try clear hfz42_4
          try clear hfz42_5
          try clear hfz42_6
          try clear hfz43_0
          try clear hfz43_1
          try clear hfz43_2
          try clear hfz43_3
          try clear hfz43_4
          try clear hfz43_5
          try clear hfz43_6
          try clear hfz44_0
          try clear hfz44_1
          try clear hfz44_2
          try clear hfz44_3
          try clear hfz44_4
          try clear hfz44_5
          try clear hfz44_6
          try clear hfz9_0
          try clear hfz9_1
          try clear hfz9_2
          try clear hfz9_3
          try clear hfz9_4
          try clear hfz9_5
          try clear hfz9_6
          try clear hx207_0
          try clear hx211_0
          try clear p2
          try clear p20
          try clear p207
          try clear p21
          try clear p211
          try clear p6
          try clear q2
          try clear q20
          try clear q207
          try clear q21
          try clear q211
          obtain ⟨x104_4, rfl, HA, HK4, BK202, HB⟩ := hrel
          cases gk with
          | zero => exact absurd HA.out (by simp [impl_DrvOk.l1])
          | succ k4 =>
           have H := HA.out
           clear HA
           simp only [impl_DrvOk.l1] at H
           by_cases c45 : x104_4 < (l0_4.length : Int)
           ·rw [if_pos c45] at H
            have c45b0 : decide (x104_4 < (l0_4.length : Int)) = true := decide_eq_true c45
            clear c45
            by_cases c46 : 0 ≤ x104_4
            ·rw [if_pos c46] at H
             have c46b0 : decide (0 ≤ x104_4) = true := decide_eq_true c46
             clear c46
             by_cases c47 : x104_4 < (l0_4.length : Int)
             ·rw [if_pos c47] at H
              have c47b0 : decide (x104_4 < (l0_4.length : Int)) = true := decide_eq_true c47
              clear c47
              replace H := Option.bind_eq_some_iff.mp H
              obtain ⟨t214, A480, H⟩ := H
              replace H : (if t214 = true then ((impl_plainText.f k4 ((rd_T73 l0_4 x104_4).f1)).bind fun t215 => (if t215 = true then (if x104_4 > 0 then (if 0 ≤ (wrap64 (x104_4 - 1)) then (if (wrap64 (x104_4 - 1)) < (l0_4.length : Int) then (if ((Op.bytesLess (((rd_T73 l0_4 (wrap64 (x104_4 - 1))).f0).toList) (((rd_T73 l0_4 x104_4).f0).toList)) = true) then (impl_DrvOk.l1 k4 l0_4 (l0_4.length : Int) (wrap64 (x104_4 + 1)) a0_0 a0_1 l0_2 a0_3 l0_4 l0_5 l0_6) else (some false)) else (none)) else (none)) else (impl_DrvOk.l1 k4 l0_4 (l0_4.length : Int) (wrap64 (x104_4 + 1)) a0_0 a0_1 l0_2 a0_3 l0_4 l0_5 l0_6)) else (some false))) else (some false)) = some r := H
              have A48 := Aside0.mk A480
              clear A480
              by_cases c49 : t214 = true
              ·subst c49
               have H1 : ((impl_plainText.f k4 ((rd_T73 l0_4 x104_4).f1)).bind fun t215 => (if t215 = true then (if x104_4 > 0 then (if 0 ≤ (wrap64 (x104_4 - 1)) then (if (wrap64 (x104_4 - 1)) < (l0_4.length : Int) then (if ((Op.bytesLess (((rd_T73 l0_4 (wrap64 (x104_4 - 1))).f0).toList) (((rd_T73 l0_4 x104_4).f0).toList)) = true) then (impl_DrvOk.l1 k4 l0_4 (l0_4.length : Int) (wrap64 (x104_4 + 1)) a0_0 a0_1 l0_2 a0_3 l0_4 l0_5 l0_6) else (some false)) else (none)) else (none)) else (impl_DrvOk.l1 k4 l0_4 (l0_4.length : Int) (wrap64 (x104_4 + 1)) a0_0 a0_1 l0_2 a0_3 l0_4 l0_5 l0_6)) else (some false))) = some r := by rw [if_pos rfl] at H; exact H
               clear H
               have H := H1
               clear H1
               replace H := Option.bind_eq_some_iff.mp H
               obtain ⟨t215, A500, H⟩ := H
               replace H : (if t215 = true then (if x104_4 > 0 then (if 0 ≤ (wrap64 (x104_4 - 1)) then (if (wrap64 (x104_4 - 1)) < (l0_4.length : Int) then (if ((Op.bytesLess (((rd_T73 l0_4 (wrap64 (x104_4 - 1))).f0).toList) (((rd_T73 l0_4 x104_4).f0).toList)) = true) then (impl_DrvOk.l1 k4 l0_4 (l0_4.length : Int) (wrap64 (x104_4 + 1)) a0_0 a0_1 l0_2 a0_3 l0_4 l0_5 l0_6) else (some false)) else (none)) else (none)) else (impl_DrvOk.l1 k4 l0_4 (l0_4.length : Int) (wrap64 (x104_4 + 1)) a0_0 a0_1 l0_2 a0_3 l0_4 l0_5 l0_6)) else (some false)) = some r := H
               have A50 := Aside0.mk A500
               clear A500
               by_cases c51 : t215 = true
               ·subst c51
                have H1 : (if x104_4 > 0 then (if 0 ≤ (wrap64 (x104_4 - 1)) then (if (wrap64 (x104_4 - 1)) < (l0_4.length : Int) then (if ((Op.bytesLess (((rd_T73 l0_4 (wrap64 (x104_4 - 1))).f0).toList) (((rd_T73 l0_4 x104_4).f0).toList)) = true) then (impl_DrvOk.l1 k4 l0_4 (l0_4.length : Int) (wrap64 (x104_4 + 1)) a0_0 a0_1 l0_2 a0_3 l0_4 l0_5 l0_6) else (some false)) else (none)) else (none)) else (impl_DrvOk.l1 k4 l0_4 (l0_4.length : Int) (wrap64 (x104_4 + 1)) a0_0 a0_1 l0_2 a0_3 l0_4 l0_5 l0_6)) = some r := by rw [if_pos rfl] at H; exact H
                clear H
                have H := H1
                clear H1
                by_cases c52 : x104_4 > 0
                ·rw [if_pos c52] at H
                 have c52b0 : decide (0 < x104_4) = true := decide_eq_true c52
                 clear c52
                 obtain ⟨ji53, hji53⟩ : ∃ j_ : Int, (wrap64 (x104_4 - 1)) = j_ := ⟨_, rfl⟩
                 replace H : (if 0 ≤ (ji53) then (if (ji53) < (l0_4.length : Int) then (if ((Op.bytesLess (((rd_T73 l0_4 (ji53)).f0).toList) (((rd_T73 l0_4 x104_4).f0).toList)) = true) then (impl_DrvOk.l1 k4 l0_4 (l0_4.length : Int) (wrap64 (x104_4 + 1)) a0_0 a0_1 l0_2 a0_3 l0_4 l0_5 l0_6) else (some false)) else (none)) else (none)) = some r := by first | (rw [hji53] at H; exact H) | (simp only [hji53] at H ⊢; exact H)
                 (try rw [hji53] at A48)
                 (try rw [hji53] at A50)
                 have hji53w : (IntKind.i64.wrap (x104_4 - 1)) = ji53 := (i64_w _).trans hji53
                 by_cases c54 : 0 ≤ (ji53)
                 ·rw [if_pos c54] at H
                  have c54b0 : decide (0 ≤ (ji53)) = true := decide_eq_true c54
                  clear c54
                  by_cases c55 : (ji53) < (l0_4.length : Int)
                  ·rw [if_pos c55] at H
                   have c55b0 : decide ((ji53) < (l0_4.length : Int)) = true := decide_eq_true c55
                   clear c55
                   by_cases c56 : ((Op.bytesLess (((rd_T73 l0_4 (ji53)).f0).toList) (((rd_T73 l0_4 x104_4).f0).toList)) = true)
                   ·rw [if_pos c56] at H
                    have c56b0 : (Op.bytesLess (((rd_T73 l0_4 (ji53)).f0).toList) (((rd_T73 l0_4 x104_4).f0).toList)) = true := c56
                    have c56b0l1 := leq_l1 c56b0
                    have c56b0l2 := leq_l2 c56b0
                    clear c56
                    have H' := Aside0.mk H
                    clear H
                    have p212 : 0 ≤ (x104_4 : Int) := of_decide_eq_true (by first | (with_reducible assumption) | assumption)
                    have q212 : x104_4 < (l0_4.length : Int) := of_decide_eq_true (by first | (with_reducible assumption) | assumption)
                    obtain ⟨ad212, e212, hx212_0, hx212_1⟩ := at_T73 HR0_4.out x104_4 p212 q212
                    cases e212
                    try (replace hx212_0 := (HB.out.cell (World.block_lt_of_cell? w _ hx212_0)).trans hx212_0)
                    try (replace hx212_1 := (HB.out.cell (World.block_lt_of_cell? w _ hx212_1)).trans hx212_1)
                    replace p212 := eq_true p212
                    replace q212 := eq_true q212
                    go_wp2_with (first | ((with_reducible refine gate_dst (N := 8) rfl ?_); (try (refine gate_guard (by rfl) ?_; dsimp only)); refine box_event ?hg (N := 8) ?hd (cs := #[.string (⟨#[]⟩ : ByteArray), .string (⟨#[]⟩ : ByteArray)]) (t := 73) ?hr ?_; (case hd => rfl); (case hg => rfl); (case hr => first | (go_simp; done) | (go_simp; rfl)); intro gb213 hg w57 hbox hb; have n0_ := Aside0.mk (blk_below (g := gb202) (qK BK202.out) hb); have n1_ := Aside0.mk (below_step (qG GE202.out) hb); have n2_ := Aside0.mk (hbox); have n3_ := Aside0.mk ((by rw [hg]; exact (below_size (qG GE202.out)) : w.heap.size ≤ gb213)); have n4_ := Aside0.mk ((by rw [hg]; exact (below_size (qG GE202.out)) : w.heap.size ≤ gb213)); have n5_ := Aside0.mk ((by rw [hg]; exact Nat.ne_of_lt (blk_lt (g := gb202) (qK BK202.out)) : gb202 ≠ gb213)); have n6_ := Aside0.mk ((by rw [hg]; exact Nat.ne_of_gt (blk_lt (g := gb202) (qK BK202.out)) : gb213 ≠ gb202)); clear BK202; clear HB; have BK202 := n0_; have HB := n1_; have BK213 := n2_; have GW213 := n3_; have GE213 := n4_; have NB202_213 := n5_; have NB213_202 := n6_; clear n0_ n1_ n2_ n3_ n4_ n5_ n6_; clear hb hbox hg; have hnb58 := NB213_202.out; have hnc58 := NB202_213.out; have hcz59_0 : w57.cell? ⟨gb213, 0, none⟩ = some (.string (⟨#[]⟩ : ByteArray)) := (blk_cell BK213.out 0).trans rfl; have hcz59_1 : w57.cell? ⟨gb213, 1, none⟩ = some (.string (⟨#[]⟩ : ByteArray)) := (blk_cell BK213.out 1).trans rfl; have hfz59_0 := blk_frozen BK213.out 0; have hfz59_1 := blk_frozen BK213.out 1) | (go_at_call 30; (with_reducible refine (impl_NameOk.calls k4 ((rd_T73 l0_4 x104_4).f0) true _ A48.out).mono ?_); rintro e w' ⟨rfl, ⟨nd, rfl⟩⟩; (try exact qD)) | (go_at_call 54; (with_reducible refine (impl_plainText.calls k4 ((rd_T73 l0_4 x104_4).f1) true _ A50.out).mono ?_); rintro e w' ⟨rfl, ⟨nd, rfl⟩⟩; (try exact qD); have hcz60_0 : w57.cell? ⟨gb202, 0, none⟩ = some (.string a0_0) := (blk_cell BK202.out 0).trans rfl; have hcz60_1 : w57.cell? ⟨gb202, 1, none⟩ = some (.string a0_1) := (blk_cell BK202.out 1).trans rfl; have hcz60_2 : w57.cell? ⟨gb202, 2, none⟩ = some (.slice A0_2 l0_2.length c0_2) := (blk_cell BK202.out 2).trans rfl; have hcz60_3 : w57.cell? ⟨gb202, 3, none⟩ = some (.string a0_3) := (blk_cell BK202.out 3).trans rfl; have hcz60_4 : w57.cell? ⟨gb202, 4, none⟩ = some (.slice (some ad212) l0_4.length c0_4) := (blk_cell BK202.out 4).trans rfl; have hcz60_5 : w57.cell? ⟨gb202, 5, none⟩ = some (.slice A0_5 l0_5.length c0_5) := (blk_cell BK202.out 5).trans rfl; have hcz60_6 : w57.cell? ⟨gb202, 6, none⟩ = some (.slice A0_6 l0_6.length c0_6) := (blk_cell BK202.out 6).trans rfl; have hfz60_0 := blk_frozen BK202.out 0; have hfz60_1 := blk_frozen BK202.out 1; have hfz60_2 := blk_frozen BK202.out 2; have hfz60_3 := blk_frozen BK202.out 3; have hfz60_4 := blk_frozen BK202.out 4; have hfz60_5 := blk_frozen BK202.out 5; have hfz60_6 := blk_frozen BK202.out 6; have p216 : 0 ≤ ((ji53) : Int) := of_decide_eq_true (by first | (with_reducible assumption) | assumption); have q216 : (ji53) < (l0_4.length : Int) := of_decide_eq_true (by first | (with_reducible assumption) | assumption); obtain ⟨ad216, e216, hx216_0, hx216_1⟩ := at_T73 HR0_4.out (ji53) p216 q216; obtain rfl : ad212 = ad216 := (by injection e216); have hn216_0 : ad212.block ≠ gb213 := Nat.ne_of_lt (Nat.lt_of_lt_of_le (by have := World.block_lt_of_cell? _ _ hx216_0; first | rwa [add_block] at this | exact this) GW213.out); have hn216_1 : ad212.block ≠ gb213 := Nat.ne_of_lt (Nat.lt_of_lt_of_le (by have := World.block_lt_of_cell? _ _ hx216_0; first | rwa [add_block] at this | exact this) GW213.out); replace hx216_0 := (HB.out.cell (World.block_lt_of_cell? w _ hx216_0)).trans hx216_0; replace hx216_1 := (HB.out.cell (World.block_lt_of_cell? w _ hx216_1)).trans hx216_1; replace hx216_0 := (cell_far (p := ⟨gb213, 0, none⟩) (by first | (rw [add_block]; exact hn216_0) | (show (Addr.add _ _).block ≠ _; rw [add_block]; exact hn216_0) | exact hn216_0) (.string ((rd_T73 l0_4 x104_4).f0))).trans hx216_0; replace hx216_1 := (cell_far (p := ⟨gb213, 0, none⟩) (by first | (rw [add_block]; exact hn216_0) | (show (Addr.add _ _).block ≠ _; rw [add_block]; exact hn216_0) | exact hn216_0) (.string ((rd_T73 l0_4 x104_4).f0))).trans hx216_1; replace hx216_0 := (cell_far (p := ⟨gb213, 1, none⟩) (by first | (rw [add_block]; exact hn216_1) | (show (Addr.add _ _).block ≠ _; rw [add_block]; exact hn216_1) | exact hn216_1) (.string ((rd_T73 l0_4 x104_4).f1))).trans hx216_0; replace hx216_1 := (cell_far (p := ⟨gb213, 1, none⟩) (by first | (rw [add_block]; exact hn216_1) | (show (Addr.add _ _).block ≠ _; rw [add_block]; exact hn216_1) | exact hn216_1) (.string ((rd_T73 l0_4 x104_4).f1))).trans hx216_1; (try have hy216_0 := fun (n_ : Nat) => (show ((((w57.drewN n_).setCell ⟨gb213, 0, none⟩ (.string ((rd_T73 l0_4 x104_4).f0))).setCell ⟨gb213, 1, none⟩ (.string ((rd_T73 l0_4 x104_4).f1)))).cell? _ = some _ from hx216_0)); (try have hy216_1 := fun (n_ : Nat) => (show ((((w57.drewN n_).setCell ⟨gb213, 0, none⟩ (.string ((rd_T73 l0_4 x104_4).f0))).setCell ⟨gb213, 1, none⟩ (.string ((rd_T73 l0_4 x104_4).f1)))).cell? _ = some _ from hx216_1)); clear hn216_0; clear hn216_1; replace p216 := eq_true p216; replace q216 := eq_true q216))
                    repeat (go_quiet (first | ((with_reducible refine gate_dst (N := 8) rfl ?_); (try (refine gate_guard (by rfl) ?_; dsimp only)); refine box_event ?hg (N := 8) ?hd (cs := #[.string (⟨#[]⟩ : ByteArray), .string (⟨#[]⟩ : ByteArray)]) (t := 73) ?hr ?_; (case hd => rfl); (case hg => rfl); (case hr => first | (go_simp; done) | (go_simp; rfl)); intro gb213 hg w57 hbox hb; have n0_ := Aside0.mk (blk_below (g := gb202) (qK BK202.out) hb); have n1_ := Aside0.mk (below_step (qG GE202.out) hb); have n2_ := Aside0.mk (hbox); have n3_ := Aside0.mk ((by rw [hg]; exact (below_size (qG GE202.out)) : w.heap.size ≤ gb213)); have n4_ := Aside0.mk ((by rw [hg]; exact (below_size (qG GE202.out)) : w.heap.size ≤ gb213)); have n5_ := Aside0.mk ((by rw [hg]; exact Nat.ne_of_lt (blk_lt (g := gb202) (qK BK202.out)) : gb202 ≠ gb213)); have n6_ := Aside0.mk ((by rw [hg]; exact Nat.ne_of_gt (blk_lt (g := gb202) (qK BK202.out)) : gb213 ≠ gb202)); clear BK202; clear HB; have BK202 := n0_; have HB := n1_; have BK213 := n2_; have GW213 := n3_; have GE213 := n4_; have NB202_213 := n5_; have NB213_202 := n6_; clear n0_ n1_ n2_ n3_ n4_ n5_ n6_; clear hb hbox hg; have hnb58 := NB213_202.out; have hnc58 := NB202_213.out; have hcz59_0 : w57.cell? ⟨gb213, 0, none⟩ = some (.string (⟨#[]⟩ : ByteArray)) := (blk_cell BK213.out 0).trans rfl; have hcz59_1 : w57.cell? ⟨gb213, 1, none⟩ = some (.string (⟨#[]⟩ : ByteArray)) := (blk_cell BK213.out 1).trans rfl; have hfz59_0 := blk_frozen BK213.out 0; have hfz59_1 := blk_frozen BK213.out 1) | (go_at_call 30; (with_reducible refine (impl_NameOk.calls k4 ((rd_T73 l0_4 x104_4).f0) true _ A48.out).mono ?_); rintro e w' ⟨rfl, ⟨nd, rfl⟩⟩; (try exact qD)) | (go_at_call 54; (with_reducible refine (impl_plainText.calls k4 ((rd_T73 l0_4 x104_4).f1) true _ A50.out).mono ?_); rintro e w' ⟨rfl, ⟨nd, rfl⟩⟩; (try exact qD); have hcz60_0 : w57.cell? ⟨gb202, 0, none⟩ = some (.string a0_0) := (blk_cell BK202.out 0).trans rfl; have hcz60_1 : w57.cell? ⟨gb202, 1, none⟩ = some (.string a0_1) := (blk_cell BK202.out 1).trans rfl; have hcz60_2 : w57.cell? ⟨gb202, 2, none⟩ = some (.slice A0_2 l0_2.length c0_2) := (blk_cell BK202.out 2).trans rfl; have hcz60_3 : w57.cell? ⟨gb202, 3, none⟩ = some (.string a0_3) := (blk_cell BK202.out 3).trans rfl; have hcz60_4 : w57.cell? ⟨gb202, 4, none⟩ = some (.slice (some ad212) l0_4.length c0_4) := (blk_cell BK202.out 4).trans rfl; have hcz60_5 : w57.cell? ⟨gb202, 5, none⟩ = some (.slice A0_5 l0_5.length c0_5) := (blk_cell BK202.out 5).trans rfl; have hcz60_6 : w57.cell? ⟨gb202, 6, none⟩ = some (.slice A0_6 l0_6.length c0_6) := (blk_cell BK202.out 6).trans rfl; have hfz60_0 := blk_frozen BK202.out 0; have hfz60_1 := blk_frozen BK202.out 1; have hfz60_2 := blk_frozen BK202.out 2; have hfz60_3 := blk_frozen BK202.out 3; have hfz60_4 := blk_frozen BK202.out 4; have hfz60_5 := blk_frozen BK202.out 5; have hfz60_6 := blk_frozen BK202.out 6; have p216 : 0 ≤ ((ji53) : Int) := of_decide_eq_true (by first | (with_reducible assumption) | assumption); have q216 : (ji53) < (l0_4.length : Int) := of_decide_eq_true (by first | (with_reducible assumption) | assumption); obtain ⟨ad216, e216, hx216_0, hx216_1⟩ := at_T73 HR0_4.out (ji53) p216 q216; obtain rfl : ad212 = ad216 := (by injection e216); have hn216_0 : ad212.block ≠ gb213 := Nat.ne_of_lt (Nat.lt_of_lt_of_le (by have := World.block_lt_of_cell? _ _ hx216_0; first | rwa [add_block] at this | exact this) GW213.out); have hn216_1 : ad212.block ≠ gb213 := Nat.ne_of_lt (Nat.lt_of_lt_of_le (by have := World.block_lt_of_cell? _ _ hx216_0; first | rwa [add_block] at this | exact this) GW213.out); replace hx216_0 := (HB.out.cell (World.block_lt_of_cell? w _ hx216_0)).trans hx216_0; replace hx216_1 := (HB.out.cell (World.block_lt_of_cell? w _ hx216_1)).trans hx216_1; replace hx216_0 := (cell_far (p := ⟨gb213, 0, none⟩) (by first | (rw [add_block]; exact hn216_0) | (show (Addr.add _ _).block ≠ _; rw [add_block]; exact hn216_0) | exact hn216_0) (.string ((rd_T73 l0_4 x104_4).f0))).trans hx216_0; replace hx216_1 := (cell_far (p := ⟨gb213, 0, none⟩) (by first | (rw [add_block]; exact hn216_0) | (show (Addr.add _ _).block ≠ _; rw [add_block]; exact hn216_0) | exact hn216_0) (.string ((rd_T73 l0_4 x104_4).f0))).trans hx216_1; replace hx216_0 := (cell_far (p := ⟨gb213, 1, none⟩) (by first | (rw [add_block]; exact hn216_1) | (show (Addr.add _ _).block ≠ _; rw [add_block]; exact hn216_1) | exact hn216_1) (.string ((rd_T73 l0_4 x104_4).f1))).trans hx216_0; replace hx216_1 := (cell_far (p := ⟨gb213, 1, none⟩) (by first | (rw [add_block]; exact hn216_1) | (show (Addr.add _ _).block ≠ _; rw [add_block]; exact hn216_1) | exact hn216_1) (.string ((rd_T73 l0_4 x104_4).f1))).trans hx216_1; (try have hy216_0 := fun (n_ : Nat) => (show ((((w57.drewN n_).setCell ⟨gb213, 0, none⟩ (.string ((rd_T73 l0_4 x104_4).f0))).setCell ⟨gb213, 1, none⟩ (.string ((rd_T73 l0_4 x104_4).f1)))).cell? _ = some _ from hx216_0)); (try have hy216_1 := fun (n_ : Nat) => (show ((((w57.drewN n_).setCell ⟨gb213, 0, none⟩ (.string ((rd_T73 l0_4 x104_4).f0))).setCell ⟨gb213, 1, none⟩ (.string ((rd_T73 l0_4 x104_4).f1)))).cell? _ = some _ from hx216_1)); clear hn216_0; clear hn216_1; replace p216 := eq_true p216; replace q216 := eq_true q216)); try go_wp2_with (first | ((with_reducible refine gate_dst (N := 8) rfl ?_); (try (refine gate_guard (by rfl) ?_; dsimp only)); refine box_event ?hg (N := 8) ?hd (cs := #[.string (⟨#[]⟩ : ByteArray), .string (⟨#[]⟩ : ByteArray)]) (t := 73) ?hr ?_; (case hd => rfl); (case hg => rfl); (case hr => first | (go_simp; done) | (go_simp; rfl)); intro gb213 hg w57 hbox hb; have n0_ := Aside0.mk (blk_below (g := gb202) (qK BK202.out) hb); have n1_ := Aside0.mk (below_step (qG GE202.out) hb); have n2_ := Aside0.mk (hbox); have n3_ := Aside0.mk ((by rw [hg]; exact (below_size (qG GE202.out)) : w.heap.size ≤ gb213)); have n4_ := Aside0.mk ((by rw [hg]; exact (below_size (qG GE202.out)) : w.heap.size ≤ gb213)); have n5_ := Aside0.mk ((by rw [hg]; exact Nat.ne_of_lt (blk_lt (g := gb202) (qK BK202.out)) : gb202 ≠ gb213)); have n6_ := Aside0.mk ((by rw [hg]; exact Nat.ne_of_gt (blk_lt (g := gb202) (qK BK202.out)) : gb213 ≠ gb202)); clear BK202; clear HB; have BK202 := n0_; have HB := n1_; have BK213 := n2_; have GW213 := n3_; have GE213 := n4_; have NB202_213 := n5_; have NB213_202 := n6_; clear n0_ n1_ n2_ n3_ n4_ n5_ n6_; clear hb hbox hg; have hnb58 := NB213_202.out; have hnc58 := NB202_213.out; have hcz59_0 : w57.cell? ⟨gb213, 0, none⟩ = some (.string (⟨#[]⟩ : ByteArray)) := (blk_cell BK213.out 0).trans rfl; have hcz59_1 : w57.cell? ⟨gb213, 1, none⟩ = some (.string (⟨#[]⟩ : ByteArray)) := (blk_cell BK213.out 1).trans rfl; have hfz59_0 := blk_frozen BK213.out 0; have hfz59_1 := blk_frozen BK213.out 1) | (go_at_call 30; (with_reducible refine (impl_NameOk.calls k4 ((rd_T73 l0_4 x104_4).f0) true _ A48.out).mono ?_); rintro e w' ⟨rfl, ⟨nd, rfl⟩⟩; (try exact qD)) | (go_at_call 54; (with_reducible refine (impl_plainText.calls k4 ((rd_T73 l0_4 x104_4).f1) true _ A50.out).mono ?_); rintro e w' ⟨rfl, ⟨nd, rfl⟩⟩; (try exact qD); have hcz60_0 : w57.cell? ⟨gb202, 0, none⟩ = some (.string a0_0) := (blk_cell BK202.out 0).trans rfl; have hcz60_1 : w57.cell? ⟨gb202, 1, none⟩ = some (.string a0_1) := (blk_cell BK202.out 1).trans rfl; have hcz60_2 : w57.cell? ⟨gb202, 2, none⟩ = some (.slice A0_2 l0_2.length c0_2) := (blk_cell BK202.out 2).trans rfl; have hcz60_3 : w57.cell? ⟨gb202, 3, none⟩ = some (.string a0_3) := (blk_cell BK202.out 3).trans rfl; have hcz60_4 : w57.cell? ⟨gb202, 4, none⟩ = some (.slice (some ad212) l0_4.length c0_4) := (blk_cell BK202.out 4).trans rfl; have hcz60_5 : w57.cell? ⟨gb202, 5, none⟩ = some (.slice A0_5 l0_5.length c0_5) := (blk_cell BK202.out 5).trans rfl; have hcz60_6 : w57.cell? ⟨gb202, 6, none⟩ = some (.slice A0_6 l0_6.length c0_6) := (blk_cell BK202.out 6).trans rfl; have hfz60_0 := blk_frozen BK202.out 0; have hfz60_1 := blk_frozen BK202.out 1; have hfz60_2 := blk_frozen BK202.out 2; have hfz60_3 := blk_frozen BK202.out 3; have hfz60_4 := blk_frozen BK202.out 4; have hfz60_5 := blk_frozen BK202.out 5; have hfz60_6 := blk_frozen BK202.out 6; have p216 : 0 ≤ ((ji53) : Int) := of_decide_eq_true (by first | (with_reducible assumption) | assumption); have q216 : (ji53) < (l0_4.length : Int) := of_decide_eq_true (by first | (with_reducible assumption) | assumption); obtain ⟨ad216, e216, hx216_0, hx216_1⟩ := at_T73 HR0_4.out (ji53) p216 q216; obtain rfl : ad212 = ad216 := (by injection e216); have hn216_0 : ad212.block ≠ gb213 := Nat.ne_of_lt (Nat.lt_of_lt_of_le (by have := World.block_lt_of_cell? _ _ hx216_0; first | rwa [add_block] at this | exact this) GW213.out); have hn216_1 : ad212.block ≠ gb213 := Nat.ne_of_lt (Nat.lt_of_lt_of_le (by have := World.block_lt_of_cell? _ _ hx216_0; first | rwa [add_block] at this | exact this) GW213.out); replace hx216_0 := (HB.out.cell (World.block_lt_of_cell? w _ hx216_0)).trans hx216_0; replace hx216_1 := (HB.out.cell (World.block_lt_of_cell? w _ hx216_1)).trans hx216_1; replace hx216_0 := (cell_far (p := ⟨gb213, 0, none⟩) (by first | (rw [add_block]; exact hn216_0) | (show (Addr.add _ _).block ≠ _; rw [add_block]; exact hn216_0) | exact hn216_0) (.string ((rd_T73 l0_4 x104_4).f0))).trans hx216_0; replace hx216_1 := (cell_far (p := ⟨gb213, 0, none⟩) (by first | (rw [add_block]; exact hn216_0) | (show (Addr.add _ _).block ≠ _; rw [add_block]; exact hn216_0) | exact hn216_0) (.string ((rd_T73 l0_4 x104_4).f0))).trans hx216_1; replace hx216_0 := (cell_far (p := ⟨gb213, 1, none⟩) (by first | (rw [add_block]; exact hn216_1) | (show (Addr.add _ _).block ≠ _; rw [add_block]; exact hn216_1) | exact hn216_1) (.string ((rd_T73 l0_4 x104_4).f1))).trans hx216_0; replace hx216_1 := (cell_far (p := ⟨gb213, 1, none⟩) (by first | (rw [add_block]; exact hn216_1) | (show (Addr.add _ _).block ≠ _; rw [add_block]; exact hn216_1) | exact hn216_1) (.string ((rd_T73 l0_4 x104_4).f1))).trans hx216_1; (try have hy216_0 := fun (n_ : Nat) => (show ((((w57.drewN n_).setCell ⟨gb213, 0, none⟩ (.string ((rd_T73 l0_4 x104_4).f0))).setCell ⟨gb213, 1, none⟩ (.string ((rd_T73 l0_4 x104_4).f1)))).cell? _ = some _ from hx216_0)); (try have hy216_1 := fun (n_ : Nat) => (show ((((w57.drewN n_).setCell ⟨gb213, 0, none⟩ (.string ((rd_T73 l0_4 x104_4).f0))).setCell ⟨gb213, 1, none⟩ (.string ((rd_T73 l0_4 x104_4).f1)))).cell? _ = some _ from hx216_1)); clear hn216_0; clear hn216_1; replace p216 := eq_true p216; replace q216 := eq_true q216)))
                    go_roundg k4
                    case measure => have := HJ1.out; have := HK2.out; have := HJ31.out; have := HK4.out; omega
                    case rel => exact ⟨(wrap64 (x104_4 + 1)), (by first | rfl | (simp; done) | (simp [*]; done)), H', ⟨by have := HJ1.out; have := HK2.out; have := HJ31.out; have := HK4.out; omega⟩, ⟨by (with_reducible repeat (first | refine blk_drewN ?_ _ | refine blk_drew ?_ | refine blk_alloc ?_ _)); refine blk_far ?_ NB202_213.out _; (with_reducible repeat (first | refine blk_drewN ?_ _ | refine blk_drew ?_ | refine blk_alloc ?_ _)); refine blk_far ?_ NB202_213.out _; (with_reducible repeat (first | refine blk_drewN ?_ _ | refine blk_drew ?_ | refine blk_alloc ?_ _)); exact BK202.out⟩, ⟨by repeat (first | (with_reducible first | exact HB.out | apply below_alloc | apply pw_below_drewN | apply below_drew1 | refine below_set ?_ GE202.out | refine below_set ?_ GE213.out) | exact HB.out)⟩⟩
                   ·rw [if_neg c56] at H
                    have c56b0 : (Op.bytesLess (((rd_T73 l0_4 (ji53)).f0).toList) (((rd_T73 l0_4 x104_4).f0).toList)) = false := by simpa using c56
                    have c56b0l3 := leq_l3 c56b0
                    clear c56
                    obtain rfl := Option.some.inj H
                    have p212 : 0 ≤ (x104_4 : Int) := of_decide_eq_true (by first | (with_reducible assumption) | assumption)
                    have q212 : x104_4 < (l0_4.length : Int) := of_decide_eq_true (by first | (with_reducible assumption) | assumption)
                    obtain ⟨ad212, e212, hx212_0, hx212_1⟩ := at_T73 HR0_4.out x104_4 p212 q212
                    cases e212
                    try (replace hx212_0 := (HB.out.cell (World.block_lt_of_cell? w _ hx212_0)).trans hx212_0)
                    try (replace hx212_1 := (HB.out.cell (World.block_lt_of_cell? w _ hx212_1)).trans hx212_1)
                    replace p212 := eq_true p212
                    replace q212 := eq_true q212
                    go_wp2_with (first | ((with_reducible refine gate_dst (N := 8) rfl ?_); (try (refine gate_guard (by rfl) ?_; dsimp only)); refine box_event ?hg (N := 8) ?hd (cs := #[.string (⟨#[]⟩ : ByteArray), .string (⟨#[]⟩ : ByteArray)]) (t := 73) ?hr ?_; (case hd => rfl); (case hg => rfl); (case hr => first | (go_simp; done) | (go_simp; rfl)); intro gb213 hg w61 hbox hb; have n0_ := Aside0.mk (blk_below (g := gb202) (qK BK202.out) hb); have n1_ := Aside0.mk (below_step (qG GE202.out) hb); have n2_ := Aside0.mk (hbox); have n3_ := Aside0.mk ((by rw [hg]; exact (below_size (qG GE202.out)) : w.heap.size ≤ gb213)); have n4_ := Aside0.mk ((by rw [hg]; exact (below_size (qG GE202.out)) : w.heap.size ≤ gb213)); have n5_ := Aside0.mk ((by rw [hg]; exact Nat.ne_of_lt (blk_lt (g := gb202) (qK BK202.out)) : gb202 ≠ gb213)); have n6_ := Aside0.mk ((by rw [hg]; exact Nat.ne_of_gt (blk_lt (g := gb202) (qK BK202.out)) : gb213 ≠ gb202)); clear BK202; clear HB; have BK202 := n0_; have HB := n1_; have BK213 := n2_; have GW213 := n3_; have GE213 := n4_; have NB202_213 := n5_; have NB213_202 := n6_; clear n0_ n1_ n2_ n3_ n4_ n5_ n6_; clear hb hbox hg; have hnb62 := NB213_202.out; have hnc62 := NB202_213.out; have hcz63_0 : w61.cell? ⟨gb213, 0, none⟩ = some (.string (⟨#[]⟩ : ByteArray)) := (blk_cell BK213.out 0).trans rfl; have hcz63_1 : w61.cell? ⟨gb213, 1, none⟩ = some (.string (⟨#[]⟩ : ByteArray)) := (blk_cell BK213.out 1).trans rfl; have hfz63_0 := blk_frozen BK213.out 0; have hfz63_1 := blk_frozen BK213.out 1) | (go_at_call 30; (with_reducible refine (impl_NameOk.calls k4 ((rd_T73 l0_4 x104_4).f0) true _ A48.out).mono ?_); rintro e w' ⟨rfl, ⟨nd, rfl⟩⟩; (try exact qD)) | (go_at_call 54; (with_reducible refine (impl_plainText.calls k4 ((rd_T73 l0_4 x104_4).f1) true _ A50.out).mono ?_); rintro e w' ⟨rfl, ⟨nd, rfl⟩⟩; (try exact qD); have hcz64_0 : w61.cell? ⟨gb202, 0, none⟩ = some (.string a0_0) := (blk_cell BK202.out 0).trans rfl; have hcz64_1 : w61.cell? ⟨gb202, 1, none⟩ = some (.string a0_1) := (blk_cell BK202.out 1).trans rfl; have hcz64_2 : w61.cell? ⟨gb202, 2, none⟩ = some (.slice A0_2 l0_2.length c0_2) := (blk_cell BK202.out 2).trans rfl; have hcz64_3 : w61.cell? ⟨gb202, 3, none⟩ = some (.string a0_3) := (blk_cell BK202.out 3).trans rfl; have hcz64_4 : w61.cell? ⟨gb202, 4, none⟩ = some (.slice (some ad212) l0_4.length c0_4) := (blk_cell BK202.out 4).trans rfl; have hcz64_5 : w61.cell? ⟨gb202, 5, none⟩ = some (.slice A0_5 l0_5.length c0_5) := (blk_cell BK202.out 5).trans rfl; have hcz64_6 : w61.cell? ⟨gb202, 6, none⟩ = some (.slice A0_6 l0_6.length c0_6) := (blk_cell BK202.out 6).trans rfl; have hfz64_0 := blk_frozen BK202.out 0; have hfz64_1 := blk_frozen BK202.out 1; have hfz64_2 := blk_frozen BK202.out 2; have hfz64_3 := blk_frozen BK202.out 3; have hfz64_4 := blk_frozen BK202.out 4; have hfz64_5 := blk_frozen BK202.out 5; have hfz64_6 := blk_frozen BK202.out 6; have p216 : 0 ≤ ((ji53) : Int) := of_decide_eq_true (by first | (with_reducible assumption) | assumption); have q216 : (ji53) < (l0_4.length : Int) := of_decide_eq_true (by first | (with_reducible assumption) | assumption); obtain ⟨ad216, e216, hx216_0, hx216_1⟩ := at_T73 HR0_4.out (ji53) p216 q216; obtain rfl : ad212 = ad216 := (by injection e216); have hn216_0 : ad212.block ≠ gb213 := Nat.ne_of_lt (Nat.lt_of_lt_of_le (by have := World.block_lt_of_cell? _ _ hx216_0; first | rwa [add_block] at this | exact this) GW213.out); have hn216_1 : ad212.block ≠ gb213 := Nat.ne_of_lt (Nat.lt_of_lt_of_le (by have := World.block_lt_of_cell? _ _ hx216_0; first | rwa [add_block] at this | exact this) GW213.out); replace hx216_0 := (HB.out.cell (World.block_lt_of_cell? w _ hx216_0)).trans hx216_0; replace hx216_1 := (HB.out.cell (World.block_lt_of_cell? w _ hx216_1)).trans hx216_1; replace hx216_0 := (cell_far (p := ⟨gb213, 0, none⟩) (by first | (rw [add_block]; exact hn216_0) | (show (Addr.add _ _).block ≠ _; rw [add_block]; exact hn216_0) | exact hn216_0) (.string ((rd_T73 l0_4 x104_4).f0))).trans hx216_0; replace hx216_1 := (cell_far (p := ⟨gb213, 0, none⟩) (by first | (rw [add_block]; exact hn216_0) | (show (Addr.add _ _).block ≠ _; rw [add_block]; exact hn216_0) | exact hn216_0) (.string ((rd_T73 l0_4 x104_4).f0))).trans hx216_1; replace hx216_0 := (cell_far (p := ⟨gb213, 1, none⟩) (by first | (rw [add_block]; exact hn216_1) | (show (Addr.add _ _).block ≠ _; rw [add_block]; exact hn216_1) | exact hn216_1) (.string ((rd_T73 l0_4 x104_4).f1))).trans hx216_0; replace hx216_1 := (cell_far (p := ⟨gb213, 1, none⟩) (by first | (rw [add_block]; exact hn216_1) | (show (Addr.add _ _).block ≠ _; rw [add_block]; exact hn216_1) | exact hn216_1) (.string ((rd_T73 l0_4 x104_4).f1))).trans hx216_1; (try have hy216_0 := fun (n_ : Nat) => (show ((((w61.drewN n_).setCell ⟨gb213, 0, none⟩ (.string ((rd_T73 l0_4 x104_4).f0))).setCell ⟨gb213, 1, none⟩ (.string ((rd_T73 l0_4 x104_4).f1)))).cell? _ = some _ from hx216_0)); (try have hy216_1 := fun (n_ : Nat) => (show ((((w61.drewN n_).setCell ⟨gb213, 0, none⟩ (.string ((rd_T73 l0_4 x104_4).f0))).setCell ⟨gb213, 1, none⟩ (.string ((rd_T73 l0_4 x104_4).f1)))).cell? _ = some _ from hx216_1)); clear hn216_0; clear hn216_1; replace p216 := eq_true p216; replace q216 := eq_true q216))
                    repeat (go_quiet (first | ((with_reducible refine gate_dst (N := 8) rfl ?_); (try (refine gate_guard (by rfl) ?_; dsimp only)); refine box_event ?hg (N := 8) ?hd (cs := #[.string (⟨#[]⟩ : ByteArray), .string (⟨#[]⟩ : ByteArray)]) (t := 73) ?hr ?_; (case hd => rfl); (case hg => rfl); (case hr => first | (go_simp; done) | (go_simp; rfl)); intro gb213 hg w61 hbox hb; have n0_ := Aside0.mk (blk_below (g := gb202) (qK BK202.out) hb); have n1_ := Aside0.mk (below_step (qG GE202.out) hb); have n2_ := Aside0.mk (hbox); have n3_ := Aside0.mk ((by rw [hg]; exact (below_size (qG GE202.out)) : w.heap.size ≤ gb213)); have n4_ := Aside0.mk ((by rw [hg]; exact (below_size (qG GE202.out)) : w.heap.size ≤ gb213)); have n5_ := Aside0.mk ((by rw [hg]; exact Nat.ne_of_lt (blk_lt (g := gb202) (qK BK202.out)) : gb202 ≠ gb213)); have n6_ := Aside0.mk ((by rw [hg]; exact Nat.ne_of_gt (blk_lt (g := gb202) (qK BK202.out)) : gb213 ≠ gb202)); clear BK202; clear HB; have BK202 := n0_; have HB := n1_; have BK213 := n2_; have GW213 := n3_; have GE213 := n4_; have NB202_213 := n5_; have NB213_202 := n6_; clear n0_ n1_ n2_ n3_ n4_ n5_ n6_; clear hb hbox hg; have hnb62 := NB213_202.out; have hnc62 := NB202_213.out; have hcz63_0 : w61.cell? ⟨gb213, 0, none⟩ = some (.string (⟨#[]⟩ : ByteArray)) := (blk_cell BK213.out 0).trans rfl; have hcz63_1 : w61.cell? ⟨gb213, 1, none⟩ = some (.string (⟨#[]⟩ : ByteArray)) := (blk_cell BK213.out 1).trans rfl; have hfz63_0 := blk_frozen BK213.out 0; have hfz63_1 := blk_frozen BK213.out 1) | (go_at_call 30; (with_reducible refine (impl_NameOk.calls k4 ((rd_T73 l0_4 x104_4).f0) true _ A48.out).mono ?_); rintro e w' ⟨rfl, ⟨nd, rfl⟩⟩; (try exact qD)) | (go_at_call 54; (with_reducible refine (impl_plainText.calls k4 ((rd_T73 l0_4 x104_4).f1) true _ A50.out).mono ?_); rintro e w' ⟨rfl, ⟨nd, rfl⟩⟩; (try exact qD); have hcz64_0 : w61.cell? ⟨gb202, 0, none⟩ = some (.string a0_0) := (blk_cell BK202.out 0).trans rfl; have hcz64_1 : w61.cell? ⟨gb202, 1, none⟩ = some (.string a0_1) := (blk_cell BK202.out 1).trans rfl; have hcz64_2 : w61.cell? ⟨gb202, 2, none⟩ = some (.slice A0_2 l0_2.length c0_2) := (blk_cell BK202.out 2).trans rfl; have hcz64_3 : w61.cell? ⟨gb202, 3, none⟩ = some (.string a0_3) := (blk_cell BK202.out 3).trans rfl; have hcz64_4 : w61.cell? ⟨gb202, 4, none⟩ = some (.slice (some ad212) l0_4.length c0_4) := (blk_cell BK202.out 4).trans rfl; have hcz64_5 : w61.cell? ⟨gb202, 5, none⟩ = some (.slice A0_5 l0_5.length c0_5) := (blk_cell BK202.out 5).trans rfl; have hcz64_6 : w61.cell? ⟨gb202, 6, none⟩ = some (.slice A0_6 l0_6.length c0_6) := (blk_cell BK202.out 6).trans rfl; have hfz64_0 := blk_frozen BK202.out 0; have hfz64_1 := blk_frozen BK202.out 1; have hfz64_2 := blk_frozen BK202.out 2; have hfz64_3 := blk_frozen BK202.out 3; have hfz64_4 := blk_frozen BK202.out 4; have hfz64_5 := blk_frozen BK202.out 5; have hfz64_6 := blk_frozen BK202.out 6; have p216 : 0 ≤ ((ji53) : Int) := of_decide_eq_true (by first | (with_reducible assumption) | assumption); have q216 : (ji53) < (l0_4.length : Int) := of_decide_eq_true (by first | (with_reducible assumption) | assumption); obtain ⟨ad216, e216, hx216_0, hx216_1⟩ := at_T73 HR0_4.out (ji53) p216 q216; obtain rfl : ad212 = ad216 := (by injection e216); have hn216_0 : ad212.block ≠ gb213 := Nat.ne_of_lt (Nat.lt_of_lt_of_le (by have := World.block_lt_of_cell? _ _ hx216_0; first | rwa [add_block] at this | exact this) GW213.out); have hn216_1 : ad212.block ≠ gb213 := Nat.ne_of_lt (Nat.lt_of_lt_of_le (by have := World.block_lt_of_cell? _ _ hx216_0; first | rwa [add_block] at this | exact this) GW213.out); replace hx216_0 := (HB.out.cell (World.block_lt_of_cell? w _ hx216_0)).trans hx216_0; replace hx216_1 := (HB.out.cell (World.block_lt_of_cell? w _ hx216_1)).trans hx216_1; replace hx216_0 := (cell_far (p := ⟨gb213, 0, none⟩) (by first | (rw [add_block]; exact hn216_0) | (show (Addr.add _ _).block ≠ _; rw [add_block]; exact hn216_0) | exact hn216_0) (.string ((rd_T73 l0_4 x104_4).f0))).trans hx216_0; replace hx216_1 := (cell_far (p := ⟨gb213, 0, none⟩) (by first | (rw [add_block]; exact hn216_0) | (show (Addr.add _ _).block ≠ _; rw [add_block]; exact hn216_0) | exact hn216_0) (.string ((rd_T73 l0_4 x104_4).f0))).trans hx216_1; replace hx216_0 := (cell_far (p := ⟨gb213, 1, none⟩) (by first | (rw [add_block]; exact hn216_1) | (show (Addr.add _ _).block ≠ _; rw [add_block]; exact hn216_1) | exact hn216_1) (.string ((rd_T73 l0_4 x104_4).f1))).trans hx216_0; replace hx216_1 := (cell_far (p := ⟨gb213, 1, none⟩) (by first | (rw [add_block]; exact hn216_1) | (show (Addr.add _ _).block ≠ _; rw [add_block]; exact hn216_1) | exact hn216_1) (.string ((rd_T73 l0_4 x104_4).f1))).trans hx216_1; (try have hy216_0 := fun (n_ : Nat) => (show ((((w61.drewN n_).setCell ⟨gb213, 0, none⟩ (.string ((rd_T73 l0_4 x104_4).f0))).setCell ⟨gb213, 1, none⟩ (.string ((rd_T73 l0_4 x104_4).f1)))).cell? _ = some _ from hx216_0)); (try have hy216_1 := fun (n_ : Nat) => (show ((((w61.drewN n_).setCell ⟨gb213, 0, none⟩ (.string ((rd_T73 l0_4 x104_4).f0))).setCell ⟨gb213, 1, none⟩ (.string ((rd_T73 l0_4 x104_4).f1)))).cell? _ = some _ from hx216_1)); clear hn216_0; clear hn216_1; replace p216 := eq_true p216; replace q216 := eq_true q216)); try go_wp2_with (first | ((with_reducible refine gate_dst (N := 8) rfl ?_); (try (refine gate_guard (by rfl) ?_; dsimp only)); refine box_event ?hg (N := 8) ?hd (cs := #[.string (⟨#[]⟩ : ByteArray), .string (⟨#[]⟩ : ByteArray)]) (t := 73) ?hr ?_; (case hd => rfl); (case hg => rfl); (case hr => first | (go_simp; done) | (go_simp; rfl)); intro gb213 hg w61 hbox hb; have n0_ := Aside0.mk (blk_below (g := gb202) (qK BK202.out) hb); have n1_ := Aside0.mk (below_step (qG GE202.out) hb); have n2_ := Aside0.mk (hbox); have n3_ := Aside0.mk ((by rw [hg]; exact (below_size (qG GE202.out)) : w.heap.size ≤ gb213)); have n4_ := Aside0.mk ((by rw [hg]; exact (below_size (qG GE202.out)) : w.heap.size ≤ gb213)); have n5_ := Aside0.mk ((by rw [hg]; exact Nat.ne_of_lt (blk_lt (g := gb202) (qK BK202.out)) : gb202 ≠ gb213)); have n6_ := Aside0.mk ((by rw [hg]; exact Nat.ne_of_gt (blk_lt (g := gb202) (qK BK202.out)) : gb213 ≠ gb202)); clear BK202; clear HB; have BK202 := n0_; have HB := n1_; have BK213 := n2_; have GW213 := n3_; have GE213 := n4_; have NB202_213 := n5_; have NB213_202 := n6_; clear n0_ n1_ n2_ n3_ n4_ n5_ n6_; clear hb hbox hg; have hnb62 := NB213_202.out; have hnc62 := NB202_213.out; have hcz63_0 : w61.cell? ⟨gb213, 0, none⟩ = some (.string (⟨#[]⟩ : ByteArray)) := (blk_cell BK213.out 0).trans rfl; have hcz63_1 : w61.cell? ⟨gb213, 1, none⟩ = some (.string (⟨#[]⟩ : ByteArray)) := (blk_cell BK213.out 1).trans rfl; have hfz63_0 := blk_frozen BK213.out 0; have hfz63_1 := blk_frozen BK213.out 1) | (go_at_call 30; (with_reducible refine (impl_NameOk.calls k4 ((rd_T73 l0_4 x104_4).f0) true _ A48.out).mono ?_); rintro e w' ⟨rfl, ⟨nd, rfl⟩⟩; (try exact qD)) | (go_at_call 54; (with_reducible refine (impl_plainText.calls k4 ((rd_T73 l0_4 x104_4).f1) true _ A50.out).mono ?_); rintro e w' ⟨rfl, ⟨nd, rfl⟩⟩; (try exact qD); have hcz64_0 : w61.cell? ⟨gb202, 0, none⟩ = some (.string a0_0) := (blk_cell BK202.out 0).trans rfl; have hcz64_1 : w61.cell? ⟨gb202, 1, none⟩ = some (.string a0_1) := (blk_cell BK202.out 1).trans rfl; have hcz64_2 : w61.cell? ⟨gb202, 2, none⟩ = some (.slice A0_2 l0_2.length c0_2) := (blk_cell BK202.out 2).trans rfl; have hcz64_3 : w61.cell? ⟨gb202, 3, none⟩ = some (.string a0_3) := (blk_cell BK202.out 3).trans rfl; have hcz64_4 : w61.cell? ⟨gb202, 4, none⟩ = some (.slice (some ad212) l0_4.length c0_4) := (blk_cell BK202.out 4).trans rfl; have hcz64_5 : w61.cell? ⟨gb202, 5, none⟩ = some (.slice A0_5 l0_5.length c0_5) := (blk_cell BK202.out 5).trans rfl; have hcz64_6 : w61.cell? ⟨gb202, 6, none⟩ = some (.slice A0_6 l0_6.length c0_6) := (blk_cell BK202.out 6).trans rfl; have hfz64_0 := blk_frozen BK202.out 0; have hfz64_1 := blk_frozen BK202.out 1; have hfz64_2 := blk_frozen BK202.out 2; have hfz64_3 := blk_frozen BK202.out 3; have hfz64_4 := blk_frozen BK202.out 4; have hfz64_5 := blk_frozen BK202.out 5; have hfz64_6 := blk_frozen BK202.out 6; have p216 : 0 ≤ ((ji53) : Int) := of_decide_eq_true (by first | (with_reducible assumption) | assumption); have q216 : (ji53) < (l0_4.length : Int) := of_decide_eq_true (by first | (with_reducible assumption) | assumption); obtain ⟨ad216, e216, hx216_0, hx216_1⟩ := at_T73 HR0_4.out (ji53) p216 q216; obtain rfl : ad212 = ad216 := (by injection e216); have hn216_0 : ad212.block ≠ gb213 := Nat.ne_of_lt (Nat.lt_of_lt_of_le (by have := World.block_lt_of_cell? _ _ hx216_0; first | rwa [add_block] at this | exact this) GW213.out); have hn216_1 : ad212.block ≠ gb213 := Nat.ne_of_lt (Nat.lt_of_lt_of_le (by have := World.block_lt_of_cell? _ _ hx216_0; first | rwa [add_block] at this | exact this) GW213.out); replace hx216_0 := (HB.out.cell (World.block_lt_of_cell? w _ hx216_0)).trans hx216_0; replace hx216_1 := (HB.out.cell (World.block_lt_of_cell? w _ hx216_1)).trans hx216_1; replace hx216_0 := (cell_far (p := ⟨gb213, 0, none⟩) (by first | (rw [add_block]; exact hn216_0) | (show (Addr.add _ _).block ≠ _; rw [add_block]; exact hn216_0) | exact hn216_0) (.string ((rd_T73 l0_4 x104_4).f0))).trans hx216_0; replace hx216_1 := (cell_far (p := ⟨gb213, 0, none⟩) (by first | (rw [add_block]; exact hn216_0) | (show (Addr.add _ _).block ≠ _; rw [add_block]; exact hn216_0) | exact hn216_0) (.string ((rd_T73 l0_4 x104_4).f0))).trans hx216_1; replace hx216_0 := (cell_far (p := ⟨gb213, 1, none⟩) (by first | (rw [add_block]; exact hn216_1) | (show (Addr.add _ _).block ≠ _; rw [add_block]; exact hn216_1) | exact hn216_1) (.string ((rd_T73 l0_4 x104_4).f1))).trans hx216_0; replace hx216_1 := (cell_far (p := ⟨gb213, 1, none⟩) (by first | (rw [add_block]; exact hn216_1) | (show (Addr.add _ _).block ≠ _; rw [add_block]; exact hn216_1) | exact hn216_1) (.string ((rd_T73 l0_4 x104_4).f1))).trans hx216_1; (try have hy216_0 := fun (n_ : Nat) => (show ((((w61.drewN n_).setCell ⟨gb213, 0, none⟩ (.string ((rd_T73 l0_4 x104_4).f0))).setCell ⟨gb213, 1, none⟩ (.string ((rd_T73 l0_4 x104_4).f1)))).cell? _ = some _ from hx216_0)); (try have hy216_1 := fun (n_ : Nat) => (show ((((w61.drewN n_).setCell ⟨gb213, 0, none⟩ (.string ((rd_T73 l0_4 x104_4).f0))).setCell ⟨gb213, 1, none⟩ (.string ((rd_T73 l0_4 x104_4).f1)))).cell? _ = some _ from hx216_1)); clear hn216_0; clear hn216_1; replace p216 := eq_true p216; replace q216 := eq_true q216)))
                    go_ret
                    exact ⟨by first | rfl | (simp [errW_none, errW_some] <;> rfl) | (simp only [← hji53]; first | rfl | (simp [errW_none, errW_some] <;> rfl)) | (simp [*, errW_none, errW_some] <;> rfl), by repeat (first | (with_reducible first | exact HB.out | apply below_alloc | apply pw_below_drewN | apply below_drew1 | refine below_set ?_ GE202.out | refine below_set ?_ GE213.out) | exact HB.out)⟩
                  ·rw [if_neg c55] at H
                   exact absurd H (by simp)
                 ·rw [if_neg c54] at H
                  exact absurd H (by simp)
                ·rw [if_neg c52] at H
                 have c52b0 : decide (0 < x104_4) = false := decide_eq_false c52
                 clear c52
                 have H' := Aside0.mk H
                 clear H
                 have p212 : 0 ≤ (x104_4 : Int) := of_decide_eq_true (by first | (with_reducible assumption) | assumption)
                 have q212 : x104_4 < (l0_4.length : Int) := of_decide_eq_true (by first | (with_reducible assumption) | assumption)
                 obtain ⟨ad212, e212, hx212_0, hx212_1⟩ := at_T73 HR0_4.out x104_4 p212 q212
                 cases e212
                 try (replace hx212_0 := (HB.out.cell (World.block_lt_of_cell? w _ hx212_0)).trans hx212_0)
                 try (replace hx212_1 := (HB.out.cell (World.block_lt_of_cell? w _ hx212_1)).trans hx212_1)
                 replace p212 := eq_true p212
                 replace q212 := eq_true q212
                 go_wp2_with (first | ((with_reducible refine gate_dst (N := 8) rfl ?_); (try (refine gate_guard (by rfl) ?_; dsimp only)); refine box_event ?hg (N := 8) ?hd (cs := #[.string (⟨#[]⟩ : ByteArray), .string (⟨#[]⟩ : ByteArray)]) (t := 73) ?hr ?_; (case hd => rfl); (case hg => rfl); (case hr => first | (go_simp; done) | (go_simp; rfl)); intro gb213 hg w65 hbox hb; have n0_ := Aside0.mk (blk_below (g := gb202) (qK BK202.out) hb); have n1_ := Aside0.mk (below_step (qG GE202.out) hb); have n2_ := Aside0.mk (hbox); have n3_ := Aside0.mk ((by rw [hg]; exact (below_size (qG GE202.out)) : w.heap.size ≤ gb213)); have n4_ := Aside0.mk ((by rw [hg]; exact (below_size (qG GE202.out)) : w.heap.size ≤ gb213)); have n5_ := Aside0.mk ((by rw [hg]; exact Nat.ne_of_lt (blk_lt (g := gb202) (qK BK202.out)) : gb202 ≠ gb213)); have n6_ := Aside0.mk ((by rw [hg]; exact Nat.ne_of_gt (blk_lt (g := gb202) (qK BK202.out)) : gb213 ≠ gb202)); clear BK202; clear HB; have BK202 := n0_; have HB := n1_; have BK213 := n2_; have GW213 := n3_; have GE213 := n4_; have NB202_213 := n5_; have NB213_202 := n6_; clear n0_ n1_ n2_ n3_ n4_ n5_ n6_; clear hb hbox hg; have hnb66 := NB213_202.out; have hnc66 := NB202_213.out; have hcz67_0 : w65.cell? ⟨gb213, 0, none⟩ = some (.string (⟨#[]⟩ : ByteArray)) := (blk_cell BK213.out 0).trans rfl; have hcz67_1 : w65.cell? ⟨gb213, 1, none⟩ = some (.string (⟨#[]⟩ : ByteArray)) := (blk_cell BK213.out 1).trans rfl; have hfz67_0 := blk_frozen BK213.out 0; have hfz67_1 := blk_frozen BK213.out 1) | (go_at_call 30; (with_reducible refine (impl_NameOk.calls k4 ((rd_T73 l0_4 x104_4).f0) true _ A48.out).mono ?_); rintro e w' ⟨rfl, ⟨nd, rfl⟩⟩; (try exact qD)) | (go_at_call 54; (with_reducible refine (impl_plainText.calls k4 ((rd_T73 l0_4 x104_4).f1) true _ A50.out).mono ?_); rintro e w' ⟨rfl, ⟨nd, rfl⟩⟩; (try exact qD)))
                 repeat (go_quiet (first | ((with_reducible refine gate_dst (N := 8) rfl ?_); (try (refine gate_guard (by rfl) ?_; dsimp only)); refine box_event ?hg (N := 8) ?hd (cs := #[.string (⟨#[]⟩ : ByteArray), .string (⟨#[]⟩ : ByteArray)]) (t := 73) ?hr ?_; (case hd => rfl); (case hg => rfl); (case hr => first | (go_simp; done) | (go_simp; rfl)); intro gb213 hg w65 hbox hb; have n0_ := Aside0.mk (blk_below (g := gb202) (qK BK202.out) hb); have n1_ := Aside0.mk (below_step (qG GE202.out) hb); have n2_ := Aside0.mk (hbox); have n3_ := Aside0.mk ((by rw [hg]; exact (below_size (qG GE202.out)) : w.heap.size ≤ gb213)); have n4_ := Aside0.mk ((by rw [hg]; exact (below_size (qG GE202.out)) : w.heap.size ≤ gb213)); have n5_ := Aside0.mk ((by rw [hg]; exact Nat.ne_of_lt (blk_lt (g := gb202) (qK BK202.out)) : gb202 ≠ gb213)); have n6_ := Aside0.mk ((by rw [hg]; exact Nat.ne_of_gt (blk_lt (g := gb202) (qK BK202.out)) : gb213 ≠ gb202)); clear BK202; clear HB; have BK202 := n0_; have HB := n1_; have BK213 := n2_; have GW213 := n3_; have GE213 := n4_; have NB202_213 := n5_; have NB213_202 := n6_; clear n0_ n1_ n2_ n3_ n4_ n5_ n6_; clear hb hbox hg; have hnb66 := NB213_202.out; have hnc66 := NB202_213.out; have hcz67_0 : w65.cell? ⟨gb213, 0, none⟩ = some (.string (⟨#[]⟩ : ByteArray)) := (blk_cell BK213.out 0).trans rfl; have hcz67_1 : w65.cell? ⟨gb213, 1, none⟩ = some (.string (⟨#[]⟩ : ByteArray)) := (blk_cell BK213.out 1).trans rfl; have hfz67_0 := blk_frozen BK213.out 0; have hfz67_1 := blk_frozen BK213.out 1) | (go_at_call 30; (with_reducible refine (impl_NameOk.calls k4 ((rd_T73 l0_4 x104_4).f0) true _ A48.out).mono ?_); rintro e w' ⟨rfl, ⟨nd, rfl⟩⟩; (try exact qD)) | (go_at_call 54; (with_reducible refine (impl_plainText.calls k4 ((rd_T73 l0_4 x104_4).f1) true _ A50.out).mono ?_); rintro e w' ⟨rfl, ⟨nd, rfl⟩⟩; (try exact qD))); try go_wp2_with (first | ((with_reducible refine gate_dst (N := 8) rfl ?_); (try (refine gate_guard (by rfl) ?_; dsimp only)); refine box_event ?hg (N := 8) ?hd (cs := #[.string (⟨#[]⟩ : ByteArray), .string (⟨#[]⟩ : ByteArray)]) (t := 73) ?hr ?_; (case hd => rfl); (case hg => rfl); (case hr => first | (go_simp; done) | (go_simp; rfl)); intro gb213 hg w65 hbox hb; have n0_ := Aside0.mk (blk_below (g := gb202) (qK BK202.out) hb); have n1_ := Aside0.mk (below_step (qG GE202.out) hb); have n2_ := Aside0.mk (hbox); have n3_ := Aside0.mk ((by rw [hg]; exact (below_size (qG GE202.out)) : w.heap.size ≤ gb213)); have n4_ := Aside0.mk ((by rw [hg]; exact (below_size (qG GE202.out)) : w.heap.size ≤ gb213)); have n5_ := Aside0.mk ((by rw [hg]; exact Nat.ne_of_lt (blk_lt (g := gb202) (qK BK202.out)) : gb202 ≠ gb213)); have n6_ := Aside0.mk ((by rw [hg]; exact Nat.ne_of_gt (blk_lt (g := gb202) (qK BK202.out)) : gb213 ≠ gb202)); clear BK202; clear HB; have BK202 := n0_; have HB := n1_; have BK213 := n2_; have GW213 := n3_; have GE213 := n4_; have NB202_213 := n5_; have NB213_202 := n6_; clear n0_ n1_ n2_ n3_ n4_ n5_ n6_; clear hb hbox hg; have hnb66 := NB213_202.out; have hnc66 := NB202_213.out; have hcz67_0 : w65.cell? ⟨gb213, 0, none⟩ = some (.string (⟨#[]⟩ : ByteArray)) := (blk_cell BK213.out 0).trans rfl; have hcz67_1 : w65.cell? ⟨gb213, 1, none⟩ = some (.string (⟨#[]⟩ : ByteArray)) := (blk_cell BK213.out 1).trans rfl; have hfz67_0 := blk_frozen BK213.out 0; have hfz67_1 := blk_frozen BK213.out 1) | (go_at_call 30; (with_reducible refine (impl_NameOk.calls k4 ((rd_T73 l0_4 x104_4).f0) true _ A48.out).mono ?_); rintro e w' ⟨rfl, ⟨nd, rfl⟩⟩; (try exact qD)) | (go_at_call 54; (with_reducible refine (impl_plainText.calls k4 ((rd_T73 l0_4 x104_4).f1) true _ A50.out).mono ?_); rintro e w' ⟨rfl, ⟨nd, rfl⟩⟩; (try exact qD))))
                 go_roundg k4
                 case measure => have := HJ1.out; have := HK2.out; have := HJ31.out; have := HK4.out; omega
                 case rel => exact ⟨(wrap64 (x104_4 + 1)), (by first | rfl | (simp; done) | (simp [*]; done)), H', ⟨by have := HJ1.out; have := HK2.out; have := HJ31.out; have := HK4.out; omega⟩, ⟨by (with_reducible repeat (first | refine blk_drewN ?_ _ | refine blk_drew ?_ | refine blk_alloc ?_ _)); refine blk_far ?_ NB202_213.out _; (with_reducible repeat (first | refine blk_drewN ?_ _ | refine blk_drew ?_ | refine blk_alloc ?_ _)); refine blk_far ?_ NB202_213.out _; (with_reducible repeat (first | refine blk_drewN ?_ _ | refine blk_drew ?_ | refine blk_alloc ?_ _)); exact BK202.out⟩, ⟨by repeat (first | (with_reducible first | exact HB.out | apply below_alloc | apply pw_below_drewN | apply below_drew1 | refine below_set ?_ GE202.out | refine below_set ?_ GE213.out) | exact HB.out)⟩⟩
               ·replace c51 := Bool.eq_false_iff.mpr c51
                subst c51
                have H1 : (some false) = some r := by rw [if_neg (show ¬ (false = true) by decide)] at H; exact H
                clear H
                have H := H1
                clear H1
                obtain rfl := Option.some.inj H
                have p212 : 0 ≤ (x104_4 : Int) := of_decide_eq_true (by first | (with_reducible assumption) | assumption)
                have q212 : x104_4 < (l0_4.length : Int) := of_decide_eq_true (by first | (with_reducible assumption) | assumption)
                obtain ⟨ad212, e212, hx212_0, hx212_1⟩ := at_T73 HR0_4.out x104_4 p212 q212
                cases e212
                try (replace hx212_0 := (HB.out.cell (World.block_lt_of_cell? w _ hx212_0)).trans hx212_0)
                try (replace hx212_1 := (HB.out.cell (World.block_lt_of_cell? w _ hx212_1)).trans hx212_1)
                replace p212 := eq_true p212
                replace q212 := eq_true q212
                go_wp2_with (first | ((with_reducible refine gate_dst (N := 8) rfl ?_); (try (refine gate_guard (by rfl) ?_; dsimp only)); refine box_event ?hg (N := 8) ?hd (cs := #[.string (⟨#[]⟩ : ByteArray), .string (⟨#[]⟩ : ByteArray)]) (t := 73) ?hr ?_; (case hd => rfl); (case hg => rfl); (case hr => first | (go_simp; done) | (go_simp; rfl)); intro gb213 hg w68 hbox hb; have n0_ := Aside0.mk (blk_below (g := gb202) (qK BK202.out) hb); have n1_ := Aside0.mk (below_step (qG GE202.out) hb); have n2_ := Aside0.mk (hbox); have n3_ := Aside0.mk ((by rw [hg]; exact (below_size (qG GE202.out)) : w.heap.size ≤ gb213)); have n4_ := Aside0.mk ((by rw [hg]; exact (below_size (qG GE202.out)) : w.heap.size ≤ gb213)); have n5_ := Aside0.mk ((by rw [hg]; exact Nat.ne_of_lt (blk_lt (g := gb202) (qK BK202.out)) : gb202 ≠ gb213)); have n6_ := Aside0.mk ((by rw [hg]; exact Nat.ne_of_gt (blk_lt (g := gb202) (qK BK202.out)) : gb213 ≠ gb202)); clear BK202; clear HB; have BK202 := n0_; have HB := n1_; have BK213 := n2_; have GW213 := n3_; have GE213 := n4_; have NB202_213 := n5_; have NB213_202 := n6_; clear n0_ n1_ n2_ n3_ n4_ n5_ n6_; clear hb hbox hg; have hnb69 := NB213_202.out; have hnc69 := NB202_213.out; have hcz70_0 : w68.cell? ⟨gb213, 0, none⟩ = some (.string (⟨#[]⟩ : ByteArray)) := (blk_cell BK213.out 0).trans rfl; have hcz70_1 : w68.cell? ⟨gb213, 1, none⟩ = some (.string (⟨#[]⟩ : ByteArray)) := (blk_cell BK213.out 1).trans rfl; have hfz70_0 := blk_frozen BK213.out 0; have hfz70_1 := blk_frozen BK213.out 1) | (go_at_call 30; (with_reducible refine (impl_NameOk.calls k4 ((rd_T73 l0_4 x104_4).f0) true _ A48.out).mono ?_); rintro e w' ⟨rfl, ⟨nd, rfl⟩⟩; (try exact qD)) | (go_at_call 54; (with_reducible refine (impl_plainText.calls k4 ((rd_T73 l0_4 x104_4).f1) false _ A50.out).mono ?_); rintro e w' ⟨rfl, ⟨nd, rfl⟩⟩; (try exact qD)))
                repeat (go_quiet (first | ((with_reducible refine gate_dst (N := 8) rfl ?_); (try (refine gate_guard (by rfl) ?_; dsimp only)); refine box_event ?hg (N := 8) ?hd (cs := #[.string (⟨#[]⟩ : ByteArray), .string (⟨#[]⟩ : ByteArray)]) (t := 73) ?hr ?_; (case hd => rfl); (case hg => rfl); (case hr => first | (go_simp; done) | (go_simp; rfl)); intro gb213 hg w68 hbox hb; have n0_ := Aside0.mk (blk_below (g := gb202) (qK BK202.out) hb); have n1_ := Aside0.mk (below_step (qG GE202.out) hb); have n2_ := Aside0.mk (hbox); have n3_ := Aside0.mk ((by rw [hg]; exact (below_size (qG GE202.out)) : w.heap.size ≤ gb213)); have n4_ := Aside0.mk ((by rw [hg]; exact (below_size (qG GE202.out)) : w.heap.size ≤ gb213)); have n5_ := Aside0.mk ((by rw [hg]; exact Nat.ne_of_lt (blk_lt (g := gb202) (qK BK202.out)) : gb202 ≠ gb213)); have n6_ := Aside0.mk ((by rw [hg]; exact Nat.ne_of_gt (blk_lt (g := gb202) (qK BK202.out)) : gb213 ≠ gb202)); clear BK202; clear HB; have BK202 := n0_; have HB := n1_; have BK213 := n2_; have GW213 := n3_; have GE213 := n4_; have NB202_213 := n5_; have NB213_202 := n6_; clear n0_ n1_ n2_ n3_ n4_ n5_ n6_; clear hb hbox hg; have hnb69 := NB213_202.out; have hnc69 := NB202_213.out; have hcz70_0 : w68.cell? ⟨gb213, 0, none⟩ = some (.string (⟨#[]⟩ : ByteArray)) := (blk_cell BK213.out 0).trans rfl; have hcz70_1 : w68.cell? ⟨gb213, 1, none⟩ = some (.string (⟨#[]⟩ : ByteArray)) := (blk_cell BK213.out 1).trans rfl; have hfz70_0 := blk_frozen BK213.out 0; have hfz70_1 := blk_frozen BK213.out 1) | (go_at_call 30; (with_reducible refine (impl_NameOk.calls k4 ((rd_T73 l0_4 x104_4).f0) true _ A48.out).mono ?_); rintro e w' ⟨rfl, ⟨nd, rfl⟩⟩; (try exact qD)) | (go_at_call 54; (with_reducible refine (impl_plainText.calls k4 ((rd_T73 l0_4 x104_4).f1) false _ A50.out).mono ?_); rintro e w' ⟨rfl, ⟨nd, rfl⟩⟩; (try exact qD))); try go_wp2_with (first | ((with_reducible refine gate_dst (N := 8) rfl ?_); (try (refine gate_guard (by rfl) ?_; dsimp only)); refine box_event ?hg (N := 8) ?hd (cs := #[.string (⟨#[]⟩ : ByteArray), .string (⟨#[]⟩ : ByteArray)]) (t := 73) ?hr ?_; (case hd => rfl); (case hg => rfl); (case hr => first | (go_simp; done) | (go_simp; rfl)); intro gb213 hg w68 hbox hb; have n0_ := Aside0.mk (blk_below (g := gb202) (qK BK202.out) hb); have n1_ := Aside0.mk (below_step (qG GE202.out) hb); have n2_ := Aside0.mk (hbox); have n3_ := Aside0.mk ((by rw [hg]; exact (below_size (qG GE202.out)) : w.heap.size ≤ gb213)); have n4_ := Aside0.mk ((by rw [hg]; exact (below_size (qG GE202.out)) : w.heap.size ≤ gb213)); have n5_ := Aside0.mk ((by rw [hg]; exact Nat.ne_of_lt (blk_lt (g := gb202) (qK BK202.out)) : gb202 ≠ gb213)); have n6_ := Aside0.mk ((by rw [hg]; exact Nat.ne_of_gt (blk_lt (g := gb202) (qK BK202.out)) : gb213 ≠ gb202)); clear BK202; clear HB; have BK202 := n0_; have HB := n1_; have BK213 := n2_; have GW213 := n3_; have GE213 := n4_; have NB202_213 := n5_; have NB213_202 := n6_; clear n0_ n1_ n2_ n3_ n4_ n5_ n6_; clear hb hbox hg; have hnb69 := NB213_202.out; have hnc69 := NB202_213.out; have hcz70_0 : w68.cell? ⟨gb213, 0, none⟩ = some (.string (⟨#[]⟩ : ByteArray)) := (blk_cell BK213.out 0).trans rfl; have hcz70_1 : w68.cell? ⟨gb213, 1, none⟩ = some (.string (⟨#[]⟩ : ByteArray)) := (blk_cell BK213.out 1).trans rfl; have hfz70_0 := blk_frozen BK213.out 0; have hfz70_1 := blk_frozen BK213.out 1) | (go_at_call 30; (with_reducible refine (impl_NameOk.calls k4 ((rd_T73 l0_4 x104_4).f0) true _ A48.out).mono ?_); rintro e w' ⟨rfl, ⟨nd, rfl⟩⟩; (try exact qD)) | (go_at_call 54; (with_reducible refine (impl_plainText.calls k4 ((rd_T73 l0_4 x104_4).f1) false _ A50.out).mono ?_); rintro e w' ⟨rfl, ⟨nd, rfl⟩⟩; (try exact qD))))
                go_ret
                exact ⟨by first | rfl | (simp [errW_none, errW_some] <;> rfl) | (simp [*, errW_none, errW_some] <;> rfl), by repeat (first | (with_reducible first | exact HB.out | apply below_alloc | apply pw_below_drewN | apply below_drew1 | refine below_set ?_ GE202.out | refine below_set ?_ GE213.out) | exact HB.out)⟩
              ·replace c49 := Bool.eq_false_iff.mpr c49
               subst c49
               have H1 : (some false) = some r := by rw [if_neg (show ¬ (false = true) by decide)] at H; exact H
               clear H
               have H := H1
               clear H1
               obtain rfl := Option.some.inj H
               have p212 : 0 ≤ (x104_4 : Int) := of_decide_eq_true (by first | (with_reducible assumption) | assumption)
               have q212 : x104_4 < (l0_4.length : Int) := of_decide_eq_true (by first | (with_reducible assumption) | assumption)
               obtain ⟨ad212, e212, hx212_0, hx212_1⟩ := at_T73 HR0_4.out x104_4 p212 q212
               cases e212
               try (replace hx212_0 := (HB.out.cell (World.block_lt_of_cell? w _ hx212_0)).trans hx212_0)
               try (replace hx212_1 := (HB.out.cell (World.block_lt_of_cell? w _ hx212_1)).trans hx212_1)
               replace p212 := eq_true p212
               replace q212 := eq_true q212
               go_wp2_with (first | ((with_reducible refine gate_dst (N := 8) rfl ?_); (try (refine gate_guard (by rfl) ?_; dsimp only)); refine box_event ?hg (N := 8) ?hd (cs := #[.string (⟨#[]⟩ : ByteArray), .string (⟨#[]⟩ : ByteArray)]) (t := 73) ?hr ?_; (case hd => rfl); (case hg => rfl); (case hr => first | (go_simp; done) | (go_simp; rfl)); intro gb213 hg w71 hbox hb; have n0_ := Aside0.mk (blk_below (g := gb202) (qK BK202.out) hb); have n1_ := Aside0.mk (below_step (qG GE202.out) hb); have n2_ := Aside0.mk (hbox); have n3_ := Aside0.mk ((by rw [hg]; exact (below_size (qG GE202.out)) : w.heap.size ≤ gb213)); have n4_ := Aside0.mk ((by rw [hg]; exact (below_size (qG GE202.out)) : w.heap.size ≤ gb213)); have n5_ := Aside0.mk ((by rw [hg]; exact Nat.ne_of_lt (blk_lt (g := gb202) (qK BK202.out)) : gb202 ≠ gb213)); have n6_ := Aside0.mk ((by rw [hg]; exact Nat.ne_of_gt (blk_lt (g := gb202) (qK BK202.out)) : gb213 ≠ gb202)); clear BK202; clear HB; have BK202 := n0_; have HB := n1_; have BK213 := n2_; have GW213 := n3_; have GE213 := n4_; have NB202_213 := n5_; have NB213_202 := n6_; clear n0_ n1_ n2_ n3_ n4_ n5_ n6_; clear hb hbox hg; have hnb72 := NB213_202.out; have hnc72 := NB202_213.out; have hcz73_0 : w71.cell? ⟨gb213, 0, none⟩ = some (.string (⟨#[]⟩ : ByteArray)) := (blk_cell BK213.out 0).trans rfl; have hcz73_1 : w71.cell? ⟨gb213, 1, none⟩ = some (.string (⟨#[]⟩ : ByteArray)) := (blk_cell BK213.out 1).trans rfl; have hfz73_0 := blk_frozen BK213.out 0; have hfz73_1 := blk_frozen BK213.out 1) | (go_at_call 30; (with_reducible refine (impl_NameOk.calls k4 ((rd_T73 l0_4 x104_4).f0) false _ A48.out).mono ?_); rintro e w' ⟨rfl, ⟨nd, rfl⟩⟩; (try exact qD)))
               repeat (go_quiet (first | ((with_reducible refine gate_dst (N := 8) rfl ?_); (try (refine gate_guard (by rfl) ?_; dsimp only)); refine box_event ?hg (N := 8) ?hd (cs := #[.string (⟨#[]⟩ : ByteArray), .string (⟨#[]⟩ : ByteArray)]) (t := 73) ?hr ?_; (case hd => rfl); (case hg => rfl); (case hr => first | (go_simp; done) | (go_simp; rfl)); intro gb213 hg w71 hbox hb; have n0_ := Aside0.mk (blk_below (g := gb202) (qK BK202.out) hb); have n1_ := Aside0.mk (below_step (qG GE202.out) hb); have n2_ := Aside0.mk (hbox); have n3_ := Aside0.mk ((by rw [hg]; exact (below_size (qG GE202.out)) : w.heap.size ≤ gb213)); have n4_ := Aside0.mk ((by rw [hg]; exact (below_size (qG GE202.out)) : w.heap.size ≤ gb213)); have n5_ := Aside0.mk ((by rw [hg]; exact Nat.ne_of_lt (blk_lt (g := gb202) (qK BK202.out)) : gb202 ≠ gb213)); have n6_ := Aside0.mk ((by rw [hg]; exact Nat.ne_of_gt (blk_lt (g := gb202) (qK BK202.out)) : gb213 ≠ gb202)); clear BK202; clear HB; have BK202 := n0_; have HB := n1_; have BK213 := n2_; have GW213 := n3_; have GE213 := n4_; have NB202_213 := n5_; have NB213_202 := n6_; clear n0_ n1_ n2_ n3_ n4_ n5_ n6_; clear hb hbox hg; have hnb72 := NB213_202.out; have hnc72 := NB202_213.out; have hcz73_0 : w71.cell? ⟨gb213, 0, none⟩ = some (.string (⟨#[]⟩ : ByteArray)) := (blk_cell BK213.out 0).trans rfl; have hcz73_1 : w71.cell? ⟨gb213, 1, none⟩ = some (.string (⟨#[]⟩ : ByteArray)) := (blk_cell BK213.out 1).trans rfl; have hfz73_0 := blk_frozen BK213.out 0; have hfz73_1 := blk_frozen BK213.out 1) | (go_at_call 30; (with_reducible refine (impl_NameOk.calls k4 ((rd_T73 l0_4 x104_4).f0) false _ A48.out).mono ?_); rintro e w' ⟨rfl, ⟨nd, rfl⟩⟩; (try exact qD))); try go_wp2_with (first | ((with_reducible refine gate_dst (N := 8) rfl ?_); (try (refine gate_guard (by rfl) ?_; dsimp only)); refine box_event ?hg (N := 8) ?hd (cs := #[.string (⟨#[]⟩ : ByteArray), .string (⟨#[]⟩ : ByteArray)]) (t := 73) ?hr ?_; (case hd => rfl); (case hg => rfl); (case hr => first | (go_simp; done) | (go_simp; rfl)); intro gb213 hg w71 hbox hb; have n0_ := Aside0.mk (blk_below (g := gb202) (qK BK202.out) hb); have n1_ := Aside0.mk (below_step (qG GE202.out) hb); have n2_ := Aside0.mk (hbox); have n3_ := Aside0.mk ((by rw [hg]; exact (below_size (qG GE202.out)) : w.heap.size ≤ gb213)); have n4_ := Aside0.mk ((by rw [hg]; exact (below_size (qG GE202.out)) : w.heap.size ≤ gb213)); have n5_ := Aside0.mk ((by rw [hg]; exact Nat.ne_of_lt (blk_lt (g := gb202) (qK BK202.out)) : gb202 ≠ gb213)); have n6_ := Aside0.mk ((by rw [hg]; exact Nat.ne_of_gt (blk_lt (g := gb202) (qK BK202.out)) : gb213 ≠ gb202)); clear BK202; clear HB; have BK202 := n0_; have HB := n1_; have BK213 := n2_; have GW213 := n3_; have GE213 := n4_; have NB202_213 := n5_; have NB213_202 := n6_; clear n0_ n1_ n2_ n3_ n4_ n5_ n6_; clear hb hbox hg; have hnb72 := NB213_202.out; have hnc72 := NB202_213.out; have hcz73_0 : w71.cell? ⟨gb213, 0, none⟩ = some (.string (⟨#[]⟩ : ByteArray)) := (blk_cell BK213.out 0).trans rfl; have hcz73_1 : w71.cell? ⟨gb213, 1, none⟩ = some (.string (⟨#[]⟩ : ByteArray)) := (blk_cell BK213.out 1).trans rfl; have hfz73_0 := blk_frozen BK213.out 0; have hfz73_1 := blk_frozen BK213.out 1) | (go_at_call 30; (with_reducible refine (impl_NameOk.calls k4 ((rd_T73 l0_4 x104_4).f0) false _ A48.out).mono ?_); rintro e w' ⟨rfl, ⟨nd, rfl⟩⟩; (try exact qD))))
               go_ret
               exact ⟨by first | rfl | (simp [errW_none, errW_some] <;> rfl) | (simp [*, errW_none, errW_some] <;> rfl), by repeat (first | (with_reducible first | exact HB.out | apply below_alloc | apply pw_below_drewN | apply below_drew1 | refine below_set ?_ GE202.out | refine below_set ?_ GE213.out) | exact HB.out)⟩
             ·rw [if_neg c47] at H
              exact absurd H (by simp)
            ·rw [if_neg c46] at H
             exact absurd H (by simp)
           ·rw [if_neg c45] at H
            have c45b0 : decide (x104_4 < (l0_4.length : Int)) = false := decide_eq_false c45
            clear c45
            have H' := Aside0.mk H
            clear H
            have hcz74_0 : wr.cell? ⟨gb202, 0, none⟩ = some (.string a0_0) := (blk_cell BK202.out 0).trans rfl
            have hcz74_1 : wr.cell? ⟨gb202, 1, none⟩ = some (.string a0_1) := (blk_cell BK202.out 1).trans rfl
            have hcz74_2 : wr.cell? ⟨gb202, 2, none⟩ = some (.slice A0_2 l0_2.length c0_2) := (blk_cell BK202.out 2).trans rfl
            have hcz74_3 : wr.cell? ⟨gb202, 3, none⟩ = some (.string a0_3) := (blk_cell BK202.out 3).trans rfl
            have hcz74_4 : wr.cell? ⟨gb202, 4, none⟩ = some (.slice A0_4 l0_4.length c0_4) := (blk_cell BK202.out 4).trans rfl
            have hcz74_5 : wr.cell? ⟨gb202, 5, none⟩ = some (.slice A0_5 l0_5.length c0_5) := (blk_cell BK202.out 5).trans rfl
            have hcz74_6 : wr.cell? ⟨gb202, 6, none⟩ = some (.slice A0_6 l0_6.length c0_6) := (blk_cell BK202.out 6).trans rfl
            have hfz74_0 := blk_frozen BK202.out 0
            have hfz74_1 := blk_frozen BK202.out 1
            have hfz74_2 := blk_frozen BK202.out 2
            have hfz74_3 := blk_frozen BK202.out 3
            have hfz74_4 := blk_frozen BK202.out 4
            have hfz74_5 := blk_frozen BK202.out 5
            have hfz74_6 := blk_frozen BK202.out 6
            go_wp2
            repeat (go_quiet (fail); try go_wp2)
            go_loopg [139] k4 (fun kq v139 w' => ∃ (x139_5 : Int), v139 = .int .i64 x139_5 ∧ Aside0 (impl_DrvOk.l2 kq l0_5 (l0_5.length : Int) x139_5 a0_0 a0_1 l0_2 a0_3 l0_4 l0_5 l0_6 = some r) ∧ Aside0 (kq ≤ k4) ∧ Aside0 (w'.heap[gb202]? = some (.cells #[.string a0_0, .string a0_1, (.slice A0_2 l0_2.length c0_2), .string a0_3, (.slice A0_4 l0_4.length c0_4), (.slice A0_5 l0_5.length c0_5), (.slice A0_6 l0_6.length c0_6)] 48 (0, 0))) ∧ Aside0 (Below w.heap.size w w'))
            case atStart => exact ⟨(0), (by first | rfl | (simp; done) | (simp [*]; done)), H', ⟨Nat.le_refl _⟩, ⟨by (with_reducible repeat (first | refine blk_drewN ?_ _ | refine blk_drew ?_ | refine blk_alloc ?_ _)); exact BK202.out⟩, ⟨by repeat (first | (with_reducible first | exact HB.out | apply below_alloc | apply pw_below_drewN | apply below_drew1 | refine below_set ?_ GE202.out) | exact HB.out)⟩⟩
            case round =>
             clear H'
             try clear c1
             try clear c2
             try clear p2
             try clear q2
             try clear hx2
             try clear qi2
             try clear c3
             try clear c4
             try clear c5
             try clear c6
             try clear p6
             try clear c7
             try clear c8
             try clear c8b0
             try clear c8b1
             try clear c10
             try clear c10b0
             try clear c10b1
             try clear c13
             try clear c14
             try clear c14b0
             try clear c14b1
             try clear c16
             try clear c16b0
             try clear c16b1
             try clear c18
             try clear c18b0
             try clear c18b1
             try clear p20
             try clear q20
             try clear hx20
             try clear p21
             try clear q21
             try clear hx21
             try clear qi21
             try clear c25
             try clear c27
             try clear c27b0
             try clear c28
             try clear c28b0
             try clear c29
             try clear c29b0
             try clear c31
             try clear c34
             try clear c34b0
             try clear c34b1
             try clear c36
             try clear c37
             try clear c37b0
             try clear c37b1
             try clear c38
             try clear c38b0
             try clear c38b1
             try clear c39
             try clear c39b0
             try clear c39b1
             try clear c45
             try clear c45b0
             try clear c46
             try clear c46b0
             try clear c47
             try clear c47b0
             try clear c49
             try clear c51
             try clear c52
             try clear c52b0
             try clear c54
             try clear c54b0
             try clear c55
             try clear c55b0
             try clear c56
             try clear c56b0
             try clear c58
             try clear c62
             try clear p64
             try clear c66
             try clear c69
             try clear c72
             try clear hcz11_0
             try clear hcz11_1
             try clear hcz11_2
             try clear hcz11_3
             try clear hcz11_4
             try clear hcz11_5
             try clear hcz11_6
             try clear hcz15_0
             try clear hcz15_1
             try clear hcz15_2
             try clear hcz15_3
             try clear hcz15_4
             try clear hcz15_5
             try clear hcz15_6
             try clear hcz17_0
             try clear hcz17_1
             try clear hcz17_2
             try clear hcz17_3
             try clear hcz17_4
             try clear hcz17_5
             try clear hcz17_6
             try clear hcz19_0
             try clear hcz19_1
             try clear hcz19_2
             try clear hcz19_3
             try clear hcz19_4
             try clear hcz19_5
             try clear hcz19_6
             try clear hcz21_0
             try clear hcz21_1
             try clear hcz21_2
             try clear hcz21_3
             try clear hcz21_4
             try clear hcz21_5
             try clear hcz21_6
             try clear hcz22_0
             try clear hcz22_1
             try clear hcz22_2
             try clear hcz22_3
             try clear hcz22_4
             try clear hcz22_5
             try clear hcz22_6
             try clear hcz23_0
             try clear hcz23_1
             try clear hcz23_2
             try clear hcz23_3
             try clear hcz23_4
             try clear hcz23_5
             try clear hcz23_6
             try clear hcz24_0
             try clear hcz24_1
             try clear hcz24_2
             try clear hcz24_3
             try clear hcz24_4
             try clear hcz24_5
             try clear hcz24_6
             try clear hcz26_0
             try clear hcz26_1
             try clear hcz26_2
             try clear hcz26_3
             try clear hcz26_4
             try clear hcz26_5
             try clear hcz26_6
             try clear hcz33_0
             try clear hcz33_1
             try clear hcz33_2
             try clear hcz33_3
             try clear hcz33_4
             try clear hcz33_5
             try clear hcz33_6
             try clear hcz40_0
             try clear hcz40_1
             try clear hcz40_2
             try clear hcz40_3
             try clear hcz40_4
             try clear hcz40_5
             try clear hcz40_6
             try clear hcz41_0
             try clear hcz41_1
             try clear hcz41_2
             try clear hcz41_3
             try clear hcz41_4
             try clear hcz41_5
             try clear hcz41_6
             try clear hcz42_0
             try clear hcz42_1
             try clear hcz42_2
             try clear hcz42_3
             try clear hcz42_4
             try clear hcz42_5
             try clear hcz42_6
             try clear hcz43_0
             try clear hcz43_1
             try clear hcz43_2
             try clear hcz43_3
             try clear hcz43_4
             try clear hcz43_5
             try clear hcz43_6
             try clear hcz44_0
             try clear hcz44_1
             try clear hcz44_2
             try clear hcz44_3
             try clear hcz44_4
             try clear hcz44_5
             try clear hcz44_6
             try clear hcz59_0
             try clear hcz59_1
             try clear hcz60_0
             try clear hcz60_1
             try clear hcz60_2
             try clear hcz60_3
             try clear hcz60_4
             try clear hcz60_5
             try clear hcz60_6
             try clear hcz63_0
             try clear hcz63_1
             try clear hcz64_0
             try clear hcz64_1
             try clear hcz64_2
             try clear hcz64_3
             try clear hcz64_4
             try clear hcz64_5
             try clear hcz64_6
             try clear hcz67_0
             try clear hcz67_1
             try clear hcz70_0
             try clear hcz70_1
             try clear hcz73_0
             try clear hcz73_1
             try clear hcz74_0
             try clear hcz74_1
             try clear hcz74_2
             try clear hcz74_3
             try clear hcz74_4
             try clear hcz74_5
             try clear hcz74_6
             try clear hcz9_0
             try clear hcz9_1
             try clear hcz9_2
             try clear hcz9_3
             try clear hcz9_4
             try clear hcz9_5
             try clear hcz9_6
             try clear hfz11_0
             try clear hfz11_1
             try clear hfz11_2
             try clear hfz11_3
             try clear hfz11_4
             try clear hfz11_5
             try clear hfz11_6
             try clear hfz15_0
             try clear hfz15_1
             try clear hfz15_2
             try clear hfz15_3
             try clear hfz15_4
             try clear hfz15_5
             try clear hfz15_6
             try clear hfz17_0
             try clear hfz17_1
             try clear hfz17_2
             try clear hfz17_3
             try clear hfz17_4
             try clear hfz17_5
             try clear hfz17_6
             try clear hfz19_0
             try clear hfz19_1
             try clear hfz19_2
             try clear hfz19_3
             try clear hfz19_4
             try clear hfz19_5
             try clear hfz19_6
             try clear hfz21_0
             try clear hfz21_1
             try clear hfz21_2
             try clear hfz21_3
             try clear hfz21_4
             try clear hfz21_5
             try clear hfz21_6
             try clear hfz22_0
             try clear hfz22_1
             try clear hfz22_2
             try clear hfz22_3
             try clear hfz22_4
             try clear hfz22_5
             try clear hfz22_6
             try clear hfz23_0
             try clear hfz23_1
             try clear hfz23_2
             try clear hfz23_3
             try clear hfz23_4
             try clear hfz23_5
             try clear hfz23_6
             try clear hfz24_0
             try clear hfz24_1
             try clear hfz24_2
             try clear hfz24_3
             try clear hfz24_4
             try clear hfz24_5
             try clear hfz24_6
             try clear hfz26_0
             try clear hfz26_1
             try clear hfz26_2
             try clear hfz26_3
             try clear hfz26_4
             try clear hfz26_5
             try clear hfz26_6
             try clear hfz33_0
             try clear hfz33_1
             try clear hfz33_2
             try clear hfz33_3
             try clear hfz33_4
             try clear hfz33_5
             try clear hfz33_6
             try clear hfz40_0
             try clear hfz40_1
             try clear hfz40_2
             try clear hfz40_3
             try clear hfz40_4
             try clear hfz40_5
             try clear hfz40_6
             try clear hfz41_0
             try clear hfz41_1
             try clear hfz41_2
             try clear hfz41_3
             try clear hfz41_4
             try clear hfz41_5
             try clear hfz41_6
             try clear hfz42_0
             try clear hfz42_1
             try clear hfz42_2
             try clear hfz42_3
             try clear hfz42_4
             try clear hfz42_5
             try clear hfz42_6
             try clear hfz43_0
             try clear hfz43_1
             try clear hfz43_2
             try clear hfz43_3
             try clear hfz43_4
             try clear hfz43_5
             try clear hfz43_6
             try clear hfz44_0
             try clear hfz44_1
             try clear hfz44_2
             try clear hfz44_3
             try clear hfz44_4
             try clear hfz44_5
             try clear hfz44_6
             try clear hfz59_0
             try clear hfz59_1
             try clear hfz60_0
             try clear hfz60_1
             try clear hfz60_2
             try clear hfz60_3
             try clear hfz60_4
             try clear hfz60_5
             try clear hfz60_6
             try clear hfz63_0
             try clear hfz63_1
             try clear hfz64_0
             try clear hfz64_1
             try clear hfz64_2
             try clear hfz64_3
             try clear hfz64_4
             try clear hfz64_5
             try clear hfz64_6
             try clear hfz67_0
             try clear hfz67_1
             try clear hfz70_0
             try clear hfz70_1
             try clear hfz73_0
             try clear hfz73_1
             try clear hfz74_0
             try clear hfz74_1
             try clear hfz74_2
             try clear hfz74_3
             try clear hfz74_4
             try clear hfz74_5
             try clear hfz74_6
             try clear hfz9_0
             try clear hfz9_1
             try clear hfz9_2
             try clear hfz9_3
             try clear hfz9_4
             try clear hfz9_5
             try clear hfz9_6
             try clear hx207_0
             try clear hx211_0
             try clear hx212_0
             try clear hx212_1
             try clear hx216_0
             try clear hx216_1
             try clear p2
             try clear p20
             try clear p207
             try clear p21
             try clear p211
             try clear p212
             try clear p216
             try clear p6
             try clear q2
             try clear q20
             try clear q207
             try clear q21
             try clear q211
             try clear q212
             try clear q216
             obtain ⟨x139_5, rfl, HA, HK5, BK202, HB⟩ := hrel
             cases gk with
             | zero => exact absurd HA.out (by simp [impl_DrvOk.l2])
             | succ k5 =>
              have H := HA.out
              clear HA
              simp only [impl_DrvOk.l2] at H
              by_cases c75 : x139_5 < (l0_5.length : Int)
              ·rw [if_pos c75] at H
               have c75b0 : decide (x139_5 < (l0_5.length : Int)) = true := decide_eq_true c75
               clear c75
               by_cases c76 : 0 ≤ x139_5
               ·rw [if_pos c76] at H
                have c76b0 : decide (0 ≤ x139_5) = true := decide_eq_true c76
                clear c76
                by_cases c77 : x139_5 < (l0_5.length : Int)
                ·rw [if_pos c77] at H
                 have c77b0 : decide (x139_5 < (l0_5.length : Int)) = true := decide_eq_true c77
                 clear c77
                 have HC78 := Aside0.mk H
                 clear H
                 have p217 : 0 ≤ (x139_5 : Int) := of_decide_eq_true (by first | (with_reducible assumption) | assumption)
                 have q217 : x139_5 < (l0_5.length : Int) := of_decide_eq_true (by first | (with_reducible assumption) | assumption)
                 obtain ⟨ad217, e217, hx217_0, hx217_1⟩ := at_T75 HR0_5.out x139_5 p217 q217
                 cases e217
                 try (replace hx217_0 := (HB.out.cell (World.block_lt_of_cell? w _ hx217_0)).trans hx217_0)
                 try (replace hx217_1 := (HB.out.cell (World.block_lt_of_cell? w _ hx217_1)).trans hx217_1)
                 replace p217 := eq_true p217
                 replace q217 := eq_true q217
                 go_upto_region 22 with (first | ((with_reducible refine gate_dst (N := 10) rfl ?_); (try (refine gate_guard (by rfl) ?_; dsimp only)); refine box_event ?hg (N := 10) ?hd (cs := #[.string (⟨#[]⟩ : ByteArray), .string (⟨#[]⟩ : ByteArray)]) (t := 75) ?hr ?_; (case hd => rfl); (case hg => rfl); (case hr => first | (go_simp; done) | (go_simp; rfl)); intro gb218 hg w79 hbox hb; have n0_ := Aside0.mk (blk_below (g := gb202) (qK BK202.out) hb); have n1_ := Aside0.mk (below_step (qG GE202.out) hb); have n2_ := Aside0.mk (hbox); have n3_ := Aside0.mk ((by rw [hg]; exact (below_size (qG GE202.out)) : w.heap.size ≤ gb218)); have n4_ := Aside0.mk ((by rw [hg]; exact (below_size (qG GE202.out)) : w.heap.size ≤ gb218)); have n5_ := Aside0.mk ((by rw [hg]; exact Nat.ne_of_lt (blk_lt (g := gb202) (qK BK202.out)) : gb202 ≠ gb218)); have n6_ := Aside0.mk ((by rw [hg]; exact Nat.ne_of_gt (blk_lt (g := gb202) (qK BK202.out)) : gb218 ≠ gb202)); clear BK202; clear HB; have BK202 := n0_; have HB := n1_; have BK218 := n2_; have GW218 := n3_; have GE218 := n4_; have NB202_218 := n5_; have NB218_202 := n6_; clear n0_ n1_ n2_ n3_ n4_ n5_ n6_; clear hb hbox hg; have hnb80 := NB218_202.out; have hnc80 := NB202_218.out; have hcz81_0 : w79.cell? ⟨gb218, 0, none⟩ = some (.string (⟨#[]⟩ : ByteArray)) := (blk_cell BK218.out 0).trans rfl; have hcz81_1 : w79.cell? ⟨gb218, 1, none⟩ = some (.string (⟨#[]⟩ : ByteArray)) := (blk_cell BK218.out 1).trans rfl; have hfz81_0 := blk_frozen BK218.out 0; have hfz81_1 := blk_frozen BK218.out 1))
                 repeat (go_quiet (first | ((with_reducible refine gate_dst (N := 10) rfl ?_); (try (refine gate_guard (by rfl) ?_; dsimp only)); refine box_event ?hg (N := 10) ?hd (cs := #[.string (⟨#[]⟩ : ByteArray), .string (⟨#[]⟩ : ByteArray)]) (t := 75) ?hr ?_; (case hd => rfl); (case hg => rfl); (case hr => first | (go_simp; done) | (go_simp; rfl)); intro gb218 hg w79 hbox hb; have n0_ := Aside0.mk (blk_below (g := gb202) (qK BK202.out) hb); have n1_ := Aside0.mk (below_step (qG GE202.out) hb); have n2_ := Aside0.mk (hbox); have n3_ := Aside0.mk ((by rw [hg]; exact (below_size (qG GE202.out)) : w.heap.size ≤ gb218)); have n4_ := Aside0.mk ((by rw [hg]; exact (below_size (qG GE202.out)) : w.heap.size ≤ gb218)); have n5_ := Aside0.mk ((by rw [hg]; exact Nat.ne_of_lt (blk_lt (g := gb202) (qK BK202.out)) : gb202 ≠ gb218)); have n6_ := Aside0.mk ((by rw [hg]; exact Nat.ne_of_gt (blk_lt (g := gb202) (qK BK202.out)) : gb218 ≠ gb202)); clear BK202; clear HB; have BK202 := n0_; have HB := n1_; have BK218 := n2_; have GW218 := n3_; have GE218 := n4_; have NB202_218 := n5_; have NB218_202 := n6_; clear n0_ n1_ n2_ n3_ n4_ n5_ n6_; clear hb hbox hg; have hnb80 := NB218_202.out; have hnc80 := NB202_218.out; have hcz81_0 : w79.cell? ⟨gb218, 0, none⟩ = some (.string (⟨#[]⟩ : ByteArray)) := (blk_cell BK218.out 0).trans rfl; have hcz81_1 : w79.cell? ⟨gb218, 1, none⟩ = some (.string (⟨#[]⟩ : ByteArray)) := (blk_cell BK218.out 1).trans rfl; have hfz81_0 := blk_frozen BK218.out 0; have hfz81_1 := blk_frozen BK218.out 1)); go_upto_region 22 with (first | ((with_reducible refine gate_dst (N := 10) rfl ?_); (try (refine gate_guard (by rfl) ?_; dsimp only)); refine box_event ?hg (N := 10) ?hd (cs := #[.string (⟨#[]⟩ : ByteArray), .string (⟨#[]⟩ : ByteArray)]) (t := 75) ?hr ?_; (case hd => rfl); (case hg => rfl); (case hr => first | (go_simp; done) | (go_simp; rfl)); intro gb218 hg w79 hbox hb; have n0_ := Aside0.mk (blk_below (g := gb202) (qK BK202.out) hb); have n1_ := Aside0.mk (below_step (qG GE202.out) hb); have n2_ := Aside0.mk (hbox); have n3_ := Aside0.mk ((by rw [hg]; exact (below_size (qG GE202.out)) : w.heap.size ≤ gb218)); have n4_ := Aside0.mk ((by rw [hg]; exact (below_size (qG GE202.out)) : w.heap.size ≤ gb218)); have n5_ := Aside0.mk ((by rw [hg]; exact Nat.ne_of_lt (blk_lt (g := gb202) (qK BK202.out)) : gb202 ≠ gb218)); have n6_ := Aside0.mk ((by rw [hg]; exact Nat.ne_of_gt (blk_lt (g := gb202) (qK BK202.out)) : gb218 ≠ gb202)); clear BK202; clear HB; have BK202 := n0_; have HB := n1_; have BK218 := n2_; have GW218 := n3_; have GE218 := n4_; have NB202_218 := n5_; have NB218_202 := n6_; clear n0_ n1_ n2_ n3_ n4_ n5_ n6_; clear hb hbox hg; have hnb80 := NB218_202.out; have hnc80 := NB202_218.out; have hcz81_0 : w79.cell? ⟨gb218, 0, none⟩ = some (.string (⟨#[]⟩ : ByteArray)) := (blk_cell BK218.out 0).trans rfl; have hcz81_1 : w79.cell? ⟨gb218, 1, none⟩ = some (.string (⟨#[]⟩ : ByteArray)) := (blk_cell BK218.out 1).trans rfl; have hfz81_0 := blk_frozen BK218.out 0; have hfz81_1 := blk_frozen BK218.out 1)))
                 (try simp only [Act.put, List.setIfInBounds_toArray, List.set_cons_zero, List.set_cons_succ])
                 go_cut [153] (fun v153 wc => ∃ (kq : Nat) (x153_77 : Bool), v153 = .bool x153_77 ∧ Aside0 (impl_DrvOk.j5 kq x139_5 l0_5 (l0_5.length : Int) x139_5 x153_77 a0_0 a0_1 l0_2 a0_3 l0_4 l0_5 l0_6 ((rd_T75 l0_5 x139_5).f0) ((rd_T75 l0_5 x139_5).f1) = some r) ∧ Aside0 (kq ≤ k5) ∧ Aside0 (wc.heap[gb202]? = some (.cells #[.string a0_0, .string a0_1, (.slice A0_2 l0_2.length c0_2), .string a0_3, (.slice A0_4 l0_4.length c0_4), (.slice (some ad217) l0_5.length c0_5), (.slice A0_6 l0_6.length c0_6)] 48 (0, 0))) ∧ Aside0 (wc.heap[gb218]? = some (.cells #[.string ((rd_T75 l0_5 x139_5).f0), .string ((rd_T75 l0_5 x139_5).f1)] 75 (0, 0))) ∧ Aside0 (Below w.heap.size w wc))
                 case first =>
                  have H := HC78.out
                  clear HC78
                  replace H := Option.bind_eq_some_iff.mp H
                  obtain ⟨t219, A820, H⟩ := H
                  replace H : (if t219 = true then ((impl_NameOk.f k5 ((rd_T75 l0_5 x139_5).f1)).bind fun t220 => (impl_DrvOk.j5 k5 x139_5 l0_5 (l0_5.length : Int) x139_5 (!t220) a0_0 a0_1 l0_2 a0_3 l0_4 l0_5 l0_6 ((rd_T75 l0_5 x139_5).f0) ((rd_T75 l0_5 x139_5).f1))) else (impl_DrvOk.j5 k5 x139_5 l0_5 (l0_5.length : Int) x139_5 true a0_0 a0_1 l0_2 a0_3 l0_4 l0_5 l0_6 ((rd_T75 l0_5 x139_5).f0) ((rd_T75 l0_5 x139_5).f1))) = some r := H
                  have A82 := Aside0.mk A820
                  clear A820
                  by_cases c83 : t219 = true
                  ·subst c83
                   have H1 : ((impl_NameOk.f k5 ((rd_T75 l0_5 x139_5).f1)).bind fun t220 => (impl_DrvOk.j5 k5 x139_5 l0_5 (l0_5.length : Int) x139_5 (!t220) a0_0 a0_1 l0_2 a0_3 l0_4 l0_5 l0_6 ((rd_T75 l0_5 x139_5).f0) ((rd_T75 l0_5 x139_5).f1))) = some r := by rw [if_pos rfl] at H; exact H
                   clear H
                   have H := H1
                   clear H1
                   replace H := Option.bind_eq_some_iff.mp H
                   obtain ⟨t220, A840, H⟩ := H
                   replace H : (impl_DrvOk.j5 k5 x139_5 l0_5 (l0_5.length : Int) x139_5 (!t220) a0_0 a0_1 l0_2 a0_3 l0_4 l0_5 l0_6 ((rd_T75 l0_5 x139_5).f0) ((rd_T75 l0_5 x139_5).f1)) = some r := H
                   have A84 := Aside0.mk A840
                   clear A840
                   have H' := Aside0.mk H
                   clear H
                   have hnb85 := NB218_202.out
                   have hnc85 := NB202_218.out
                   have hcz86_0 : w79.cell? ⟨gb218, 0, none⟩ = some (.string (⟨#[]⟩ : ByteArray)) := (blk_cell BK218.out 0).trans rfl
                   have hcz86_1 : w79.cell? ⟨gb218, 1, none⟩ = some (.string (⟨#[]⟩ : ByteArray)) := (blk_cell BK218.out 1).trans rfl
                   have hfz86_0 := blk_frozen BK218.out 0
                   have hfz86_1 := blk_frozen BK218.out 1
                   go_wp2_with (first | (go_at_call 9; (with_reducible refine (impl_AddressOk.calls k5 ((rd_T75 l0_5 x139_5).f0) true _ A82.out).mono ?_); rintro e w' ⟨rfl, ⟨nd, rfl⟩⟩; (try exact qD)) | (go_at_call 30; (with_reducible refine (impl_NameOk.calls k5 ((rd_T75 l0_5 x139_5).f1) t220 _ A84.out).mono ?_); rintro e w' ⟨rfl, ⟨nd, rfl⟩⟩; (try exact qD)))
                   repeat (go_quiet (first | (go_at_call 9; (with_reducible refine (impl_AddressOk.calls k5 ((rd_T75 l0_5 x139_5).f0) true _ A82.out).mono ?_); rintro e w' ⟨rfl, ⟨nd, rfl⟩⟩; (try exact qD)) | (go_at_call 30; (with_reducible refine (impl_NameOk.calls k5 ((rd_T75 l0_5 x139_5).f1) t220 _ A84.out).mono ?_); rintro e w' ⟨rfl, ⟨nd, rfl⟩⟩; (try exact qD))); try go_wp2_with (first | (go_at_call 9; (with_reducible refine (impl_AddressOk.calls k5 ((rd_T75 l0_5 x139_5).f0) true _ A82.out).mono ?_); rintro e w' ⟨rfl, ⟨nd, rfl⟩⟩; (try exact qD)) | (go_at_call 30; (with_reducible refine (impl_NameOk.calls k5 ((rd_T75 l0_5 x139_5).f1) t220 _ A84.out).mono ?_); rintro e w' ⟨rfl, ⟨nd, rfl⟩⟩; (try exact qD))))
                   go_meet
                   case rel => exact ⟨_, (!t220), (by first | rfl | (simp; done) | (simp [*]; done)), H', ⟨by have := HJ1.out; have := HK2.out; have := HJ31.out; have := HK4.out; have := HK5.out; first | omega | exact Nat.le_refl _⟩, ⟨by (with_reducible repeat (first | refine blk_drewN ?_ _ | refine blk_drew ?_ | refine blk_alloc ?_ _)); refine blk_far ?_ NB202_218.out _; (with_reducible repeat (first | refine blk_drewN ?_ _ | refine blk_drew ?_ | refine blk_alloc ?_ _)); refine blk_far ?_ NB202_218.out _; (with_reducible repeat (first | refine blk_drewN ?_ _ | refine blk_drew ?_ | refine blk_alloc ?_ _)); exact BK202.out⟩, ⟨by (with_reducible repeat (first | refine blk_drewN ?_ _ | refine blk_drew ?_ | refine blk_alloc ?_ _)); refine blk_put (cs := #[.string ((rd_T75 l0_5 x139_5).f0), .string (⟨#[]⟩ : ByteArray)]) ?_ 1 _ rfl; (with_reducible repeat (first | refine blk_drewN ?_ _ | refine blk_drew ?_ | refine blk_alloc ?_ _)); refine blk_put (cs := #[.string (⟨#[]⟩ : ByteArray), .string (⟨#[]⟩ : ByteArray)]) ?_ 0 _ rfl; (with_reducible repeat (first | refine blk_drewN ?_ _ | refine blk_drew ?_ | refine blk_alloc ?_ _)); exact BK218.out⟩, ⟨by repeat (first | (with_reducible first | exact HB.out | apply below_alloc | apply pw_below_drewN | apply below_drew1 | refine below_set ?_ GE202.out | refine below_set ?_ GE218.out) | exact HB.out)⟩⟩
                  ·replace c83 := Bool.eq_false_iff.mpr c83
                   subst c83
                   have H1 : (impl_DrvOk.j5 k5 x139_5 l0_5 (l0_5.length : Int) x139_5 true a0_0 a0_1 l0_2 a0_3 l0_4 l0_5 l0_6 ((rd_T75 l0_5 x139_5).f0) ((rd_T75 l0_5 x139_5).f1)) = some r := by rw [if_neg (show ¬ (false = true) by decide)] at H; exact H
                   clear H
                   have H := H1
                   clear H1
                   have H' := Aside0.mk H
                   clear H
                   have hnb87 := NB218_202.out
                   have hnc87 := NB202_218.out
                   have hcz88_0 : w79.cell? ⟨gb218, 0, none⟩ = some (.string (⟨#[]⟩ : ByteArray)) := (blk_cell BK218.out 0).trans rfl
                   have hcz88_1 : w79.cell? ⟨gb218, 1, none⟩ = some (.string (⟨#[]⟩ : ByteArray)) := (blk_cell BK218.out 1).trans rfl
                   have hfz88_0 := blk_frozen BK218.out 0
                   have hfz88_1 := blk_frozen BK218.out 1
                   go_wp2_with (first | (go_at_call 9; (with_reducible refine (impl_AddressOk.calls k5 ((rd_T75 l0_5 x139_5).f0) false _ A82.out).mono ?_); rintro e w' ⟨rfl, ⟨nd, rfl⟩⟩; (try exact qD)))
                   repeat (go_quiet (first | (go_at_call 9; (with_reducible refine (impl_AddressOk.calls k5 ((rd_T75 l0_5 x139_5).f0) false _ A82.out).mono ?_); rintro e w' ⟨rfl, ⟨nd, rfl⟩⟩; (try exact qD))); try go_wp2_with (first | (go_at_call 9; (with_reducible refine (impl_AddressOk.calls k5 ((rd_T75 l0_5 x139_5).f0) false _ A82.out).mono ?_); rintro e w' ⟨rfl, ⟨nd, rfl⟩⟩; (try exact qD))))
                   go_meet
                   case rel => exact ⟨_, (true), (by first | rfl | (simp; done) | (simp [*]; done)), H', ⟨by have := HJ1.out; have := HK2.out; have := HJ31.out; have := HK4.out; have := HK5.out; first | omega | exact Nat.le_refl _⟩, ⟨by (with_reducible repeat (first | refine blk_drewN ?_ _ | refine blk_drew ?_ | refine blk_alloc ?_ _)); refine blk_far ?_ NB202_218.out _; (with_reducible repeat (first | refine blk_drewN ?_ _ | refine blk_drew ?_ | refine blk_alloc ?_ _)); refine blk_far ?_ NB202_218.out _; (with_reducible repeat (first | refine blk_drewN ?_ _ | refine blk_drew ?_ | refine blk_alloc ?_ _)); exact BK202.out⟩, ⟨by (with_reducible repeat (first | refine blk_drewN ?_ _ | refine blk_drew ?_ | refine blk_alloc ?_ _)); refine blk_put (cs := #[.string ((rd_T75 l0_5 x139_5).f0), .string (⟨#[]⟩ : ByteArray)]) ?_ 1 _ rfl; (with_reducible repeat (first | refine blk_drewN ?_ _ | refine blk_drew ?_ | refine blk_alloc ?_ _)); refine blk_put (cs := #[.string (⟨#[]⟩ : ByteArray), .string (⟨#[]⟩ : ByteArray)]) ?_ 0 _ rfl; (with_reducible repeat (first | refine blk_drewN ?_ _ | refine blk_drew ?_ | refine blk_alloc ?_ _)); exact BK218.out⟩, ⟨by repeat (first | (with_reducible first | exact HB.out | apply below_alloc | apply pw_below_drewN | apply below_drew1 | refine below_set ?_ GE202.out | refine below_set ?_ GE218.out) | exact HB.out)⟩⟩
                 case rest =>
                  clear HC78
                  try clear c1
                  try clear c2
                  try clear p2
                  try clear q2
                  try clear hx2
                  try clear qi2
                  try clear c3
                  try clear c4
                  try clear c5
                  try clear c6
                  try clear p6
                  try clear c7
                  try clear c8
                  try clear c8b0
                  try clear c8b1
                  try clear c10
                  try clear c10b0
                  try clear c10b1
                  try clear c13
                  try clear c14
                  try clear c14b0
                  try clear c14b1
                  try clear c16
                  try clear c16b0
                  try clear c16b1
                  try clear c18
                  try clear c18b0
                  try clear c18b1
                  try clear p20
                  try clear q20
                  try clear hx20
                  try clear p21
                  try clear q21
                  try clear hx21
                  try clear qi21
                  try clear c25
                  try clear c27
                  try clear c27b0
                  try clear c28
                  try clear c28b0
                  try clear c29
                  try clear c29b0
                  try clear c31
                  try clear c34
                  try clear c34b0
                  try clear c34b1
                  try clear c36
                  try clear c37
                  try clear c37b0
                  try clear c37b1
                  try clear c38
                  try clear c38b0
                  try clear c38b1
                  try clear c39
                  try clear c39b0
                  try clear c39b1
                  try clear c45
                  try clear c45b0
                  try clear c46
                  try clear c46b0
                  try clear c47
                  try clear c47b0
                  try clear c49
                  try clear c51
                  try clear c52
                  try clear c52b0
                  try clear c54
                  try clear c54b0
                  try clear c55
                  try clear c55b0
                  try clear c56
                  try clear c56b0
                  try clear c58
                  try clear c62
                  try clear p64
                  try clear c66
                  try clear c69
                  try clear c72
                  try clear c75
                  try clear c75b0
                  try clear c76
                  try clear c76b0
                  try clear c77
                  try clear c77b0
                  try clear c80
                  try clear c83
                  try clear c85
                  try clear c87
                  try clear hcz11_0
                  try clear hcz11_1
                  try clear hcz11_2
                  try clear hcz11_3
                  try clear hcz11_4
                  try clear hcz11_5
                  try clear hcz11_6
                  try clear hcz15_0
                  try clear hcz15_1
                  try clear hcz15_2
                  try clear hcz15_3
                  try clear hcz15_4
                  try clear hcz15_5
                  try clear hcz15_6
                  try clear hcz17_0
                  try clear hcz17_1
                  try clear hcz17_2
                  try clear hcz17_3
                  try clear hcz17_4
                  try clear hcz17_5
                  try clear hcz17_6
                  try clear hcz19_0
                  try clear hcz19_1
                  try clear hcz19_2
                  try clear hcz19_3
                  try clear hcz19_4
                  try clear hcz19_5
                  try clear hcz19_6
                  try clear hcz21_0
                  try clear hcz21_1
                  try clear hcz21_2
                  try clear hcz21_3
                  try clear hcz21_4
                  try clear hcz21_5
                  try clear hcz21_6
                  try clear hcz22_0
                  try clear hcz22_1
                  try clear hcz22_2
                  try clear hcz22_3
                  try clear hcz22_4
                  try clear hcz22_5
                  try clear hcz22_6
                  try clear hcz23_0
                  try clear hcz23_1
                  try clear hcz23_2
                  try clear hcz23_3
                  try clear hcz23_4
                  try clear hcz23_5
                  try clear hcz23_6
                  try clear hcz24_0
                  try clear hcz24_1
                  try clear hcz24_2
                  try clear hcz24_3
                  try clear hcz24_4
                  try clear hcz24_5
                  try clear hcz24_6
                  try clear hcz26_0
                  try clear hcz26_1
                  try clear hcz26_2
                  try clear hcz26_3
                  try clear hcz26_4
                  try clear hcz26_5
                  try clear hcz26_6
                  try clear hcz33_0
                  try clear hcz33_1
                  try clear hcz33_2
                  try clear hcz33_3
                  try clear hcz33_4
                  try clear hcz33_5
                  try clear hcz33_6
                  try clear hcz40_0
                  try clear hcz40_1
                  try clear hcz40_2
                  try clear hcz40_3
                  try clear hcz40_4
                  try clear hcz40_5
                  try clear hcz40_6
                  try clear hcz41_0
                  try clear hcz41_1
                  try clear hcz41_2
                  try clear hcz41_3
                  try clear hcz41_4
                  try clear hcz41_5
                  try clear hcz41_6
                  try clear hcz42_0
                  try clear hcz42_1
                  try clear hcz42_2
                  try clear hcz42_3
                  try clear hcz42_4
                  try clear hcz42_5
                  try clear hcz42_6
                  try clear hcz43_0
                  try clear hcz43_1
                  try clear hcz43_2
                  try clear hcz43_3
                  try clear hcz43_4
                  try clear hcz43_5
                  try clear hcz43_6
                  try clear hcz44_0
                  try clear hcz44_1
                  try clear hcz44_2
                  try clear hcz44_3
                  try clear hcz44_4
                  try clear hcz44_5
                  try clear hcz44_6
                  try clear hcz59_0
                  try clear hcz59_1
                  try clear hcz60_0
                  try clear hcz60_1
                  try clear hcz60_2
                  try clear hcz60_3
                  try clear hcz60_4
                  try clear hcz60_5
                  try clear hcz60_6
                  try clear hcz63_0
                  try clear hcz63_1
                  try clear hcz64_0
                  try clear hcz64_1
                  try clear hcz64_2
                  try clear hcz64_3
                  try clear hcz64_4
                  try clear hcz64_5
                  try clear hcz64_6
                  try clear hcz67_0
                  try clear hcz67_1
                  try clear hcz70_0
                  try clear hcz70_1
                  try clear hcz73_0
                  try clear hcz73_1
                  try clear hcz74_0
                  try clear hcz74_1
                  try clear hcz74_2
                  try clear hcz74_3
                  try clear hcz74_4
                  try clear hcz74_5
                  try clear hcz74_6
                  try clear hcz81_0
                  try clear hcz81_1
                  try clear hcz86_0
                  try clear hcz86_1
                  try clear hcz88_0
                  try clear hcz88_1
                  try clear hcz9_0
                  try clear hcz9_1
                  try clear hcz9_2
                  try clear hcz9_3
                  try clear hcz9_4
                  try clear hcz9_5
                  try clear hcz9_6
                  try clear hfz11_0
                  try clear hfz11_1
                  try clear hfz11_2
                  try clear hfz11_3
                  try clear hfz11_4
                  try clear hfz11_5
                  try clear hfz11_6
                  try clear hfz15_0
                  try clear hfz15_1
                  try clear hfz15_2
                  try clear hfz15_3
                  try clear hfz15_4
                  try clear hfz15_5
                  try clear hfz15_6
                  try clear hfz17_0
                  try clear hfz17_1
                  try clear hfz17_2
                  try clear hfz17_3
                  try clear hfz17_4
                  try clear hfz17_5
                  try clear hfz17_6
                  try clear hfz19_0
                  try clear hfz19_1
                  try clear hfz19_2
                  try clear hfz19_3
                  try clear hfz19_4
                  try clear hfz19_5
                  try clear hfz19_6
                  try clear hfz21_0
                  try clear hfz21_1
                  try clear hfz21_2
                  try clear hfz21_3
                  try clear hfz21_4
                  try clear hfz21_5
                  try clear hfz21_6
                  try clear hfz22_0
                  try clear hfz22_1
                  try clear hfz22_2
                  try clear hfz22_3
                  try clear hfz22_4
                  try clear hfz22_5
                  try clear hfz22_6
                  try clear hfz23_0
                  try clear hfz23_1
                  try clear hfz23_2
                  try clear hfz23_3
                  try clear hfz23_4
                  try clear hfz23_5
                  try clear hfz23_6
                  try clear hfz24_0
                  try clear hfz24_1
                  try clear hfz24_2
                  try clear hfz24_3
                  try clear hfz24_4
                  try clear hfz24_5
                  try clear hfz24_6
                  try clear hfz26_0
                  try clear hfz26_1
                  try clear hfz26_2
                  try clear hfz26_3
                  try clear hfz26_4
                  try clear hfz26_5
                  try clear hfz26_6
                  try clear hfz33_0
                  try clear hfz33_1
                  try clear hfz33_2
                  try clear hfz33_3
                  try clear hfz33_4
                  try clear hfz33_5
                  try clear hfz33_6
                  try clear hfz40_0
                  try clear hfz40_1
                  try clear hfz40_2
                  try clear hfz40_3
                  try clear hfz40_4
                  try clear hfz40_5
                  try clear hfz40_6
                  try clear hfz41_0
                  try clear hfz41_1
                  try clear hfz41_2
                  try clear hfz41_3
                  try clear hfz41_4
                  try clear hfz41_5
                  try clear hfz41_6
                  try clear hfz42_0
                  try clear hfz42_1
                  try clear hfz42_2
                  try clear hfz42_3
                  try clear hfz42_4
                  try clear hfz42_5
                  try clear hfz42_6
                  try clear hfz43_0
                  try clear hfz43_1
                  try clear hfz43_2
                  try clear hfz43_3
                  try clear hfz43_4
                  try clear hfz43_5
                  try clear hfz43_6
                  try clear hfz44_0
                  try clear hfz44_1
                  try clear hfz44_2
                  try clear hfz44_3
                  try clear hfz44_4
                  try clear hfz44_5
                  try clear hfz44_6
                  try clear hfz59_0
                  try clear hfz59_1
                  try clear hfz60_0
                  try clear hfz60_1
                  try clear hfz60_2
                  try clear hfz60_3
                  try clear hfz60_4
                  try clear hfz60_5
                  try clear hfz60_6
                  try clear hfz63_0
                  try clear hfz63_1
                  try clear hfz64_0
                  try clear hfz64_1
                  try clear hfz64_2
                  try clear hfz64_3
                  try clear hfz64_4
                  try clear hfz64_5
                  try clear hfz64_6
                  try clear hfz67_0
                  try clear hfz67_1
                  try clear hfz70_0
                  try clear hfz70_1
                  try clear hfz73_0
                  try clear hfz73_1
                  try clear hfz74_0
                  try clear hfz74_1
                  try clear hfz74_2
                  try clear hfz74_3
                  try clear hfz74_4
                  try clear hfz74_5
                  try clear hfz74_6
                  try clear hfz81_0
                  try clear hfz81_1
                  try clear hfz86_0
                  try clear hfz86_1
                  try clear hfz88_0
                  try clear hfz88_1
                  try clear hfz9_0
                  try clear hfz9_1
                  try clear hfz9_2
                  try clear hfz9_3
                  try clear hfz9_4
                  try clear hfz9_5
                  try clear hfz9_6
                  try clear hx207_0
                  try clear hx211_0
                  try clear hx212_0
                  try clear hx212_1
                  try clear hx216_0
                  try clear hx216_1
                  try clear hx217_0
                  try clear hx217_1
                  try clear p2
                  try clear p20
                  try clear p207
                  try clear p21
                  try clear p211
                  try clear p212
                  try clear p216
                  try clear p217
                  try clear p6
                  try clear p64
                  try clear q2
                  try clear q20
                  try clear q207
                  try clear q21
                  try clear q211
                  try clear q212
                  try clear q216
                  try clear q217
                  obtain ⟨kq, x153_77, rfl, HA, HJ77, BK202, BK218, HB⟩ := hcut
                  cases kq with
                  | zero => exact absurd HA.out (by simp [impl_DrvOk.j5])
                  | succ kj77 =>
                   have H := HA.out
                   clear HA
                   simp only [impl_DrvOk.j5] at H
                   by_cases c89 : x153_77 = true
                   ·subst c89
                    have H1 : (some false) = some r := by rw [if_pos rfl] at H; exact H
                    clear H
                    have H := H1
                    clear H1
                    obtain rfl := Option.some.inj H
                    go_wp2
                    repeat (go_quiet (fail); try go_wp2)
                    go_ret
                    exact ⟨by first | rfl | (simp [errW_none, errW_some] <;> rfl) | (simp [*, errW_none, errW_some] <;> rfl), by repeat (first | (with_reducible first | exact HB.out | apply below_alloc | apply pw_below_drewN | apply below_drew1 | refine below_set ?_ GE202.out | refine below_set ?_ GE218.out) | exact HB.out)⟩
                   ·replace c89 := Bool.eq_false_iff.mpr c89
                    subst c89
                    have H1 : (if x139_5 > 0 then (if 0 ≤ (wrap64 (x139_5 - 1)) then (if (wrap64 (x139_5 - 1)) < (l0_5.length : Int) then (if (Op.bytesLess ((rd_T75 l0_5 x139_5).f0).toList (((rd_T75 l0_5 (wrap64 (x139_5 - 1))).f0).toList)) = true then (some false) else (if ((rd_T75 l0_5 x139_5).f0).toList = ((rd_T75 l0_5 (wrap64 (x139_5 - 1))).f0).toList then (if ((Op.bytesLess (((rd_T75 l0_5 (wrap64 (x139_5 - 1))).f1).toList) ((rd_T75 l0_5 x139_5).f1).toList) = true) then (impl_DrvOk.l2 kj77 l0_5 (l0_5.length : Int) (wrap64 (x139_5 + 1)) a0_0 a0_1 l0_2 a0_3 l0_4 l0_5 l0_6) else (some false)) else (impl_DrvOk.l2 kj77 l0_5 (l0_5.length : Int) (wrap64 (x139_5 + 1)) a0_0 a0_1 l0_2 a0_3 l0_4 l0_5 l0_6))) else (none)) else (none)) else (impl_DrvOk.l2 kj77 l0_5 (l0_5.length : Int) (wrap64 (x139_5 + 1)) a0_0 a0_1 l0_2 a0_3 l0_4 l0_5 l0_6)) = some r := by rw [if_neg (show ¬ (false = true) by decide)] at H; exact H
                    clear H
                    have H := H1
                    clear H1
                    by_cases c90 : x139_5 > 0
                    ·rw [if_pos c90] at H
                     have c90b0 : decide (0 < x139_5) = true := decide_eq_true c90
                     clear c90
                     obtain ⟨ji91, hji91⟩ : ∃ j_ : Int, (wrap64 (x139_5 - 1)) = j_ := ⟨_, rfl⟩
                     replace H : (if 0 ≤ (ji91) then (if (ji91) < (l0_5.length : Int) then (if (Op.bytesLess ((rd_T75 l0_5 x139_5).f0).toList (((rd_T75 l0_5 (ji91)).f0).toList)) = true then (some false) else (if ((rd_T75 l0_5 x139_5).f0).toList = ((rd_T75 l0_5 (ji91)).f0).toList then (if ((Op.bytesLess (((rd_T75 l0_5 (ji91)).f1).toList) ((rd_T75 l0_5 x139_5).f1).toList) = true) then (impl_DrvOk.l2 kj77 l0_5 (l0_5.length : Int) (wrap64 (x139_5 + 1)) a0_0 a0_1 l0_2 a0_3 l0_4 l0_5 l0_6) else (some false)) else (impl_DrvOk.l2 kj77 l0_5 (l0_5.length : Int) (wrap64 (x139_5 + 1)) a0_0 a0_1 l0_2 a0_3 l0_4 l0_5 l0_6))) else (none)) else (none)) = some r := by first | (rw [hji91] at H; exact H) | (simp only [hji91] at H ⊢; exact H)
                     have hji91w : (IntKind.i64.wrap (x139_5 - 1)) = ji91 := (i64_w _).trans hji91
                     by_cases c92 : 0 ≤ (ji91)
                     ·rw [if_pos c92] at H
                      have c92b0 : decide (0 ≤ (ji91)) = true := decide_eq_true c92
                      clear c92
                      by_cases c93 : (ji91) < (l0_5.length : Int)
                      ·rw [if_pos c93] at H
                       have c93b0 : decide ((ji91) < (l0_5.length : Int)) = true := decide_eq_true c93
                       clear c93
                       by_cases c94 : (Op.bytesLess ((rd_T75 l0_5 x139_5).f0).toList (((rd_T75 l0_5 (ji91)).f0).toList)) = true
                       ·rw [if_pos c94] at H
                        have c94b0 : (Op.bytesLess ((rd_T75 l0_5 x139_5).f0).toList (((rd_T75 l0_5 (ji91)).f0).toList)) = true := c94
                        have c94b0l1 := leq_l1 c94b0
                        have c94b0l2 := leq_l2 c94b0
                        clear c94
                        obtain rfl := Option.some.inj H
                        have hnb95 := NB202_218.out
                        have hnc95 := NB218_202.out
                        have hcz96_0 : wc.cell? ⟨gb202, 0, none⟩ = some (.string a0_0) := (blk_cell BK202.out 0).trans rfl
                        have hcz96_1 : wc.cell? ⟨gb202, 1, none⟩ = some (.string a0_1) := (blk_cell BK202.out 1).trans rfl
                        have hcz96_2 : wc.cell? ⟨gb202, 2, none⟩ = some (.slice A0_2 l0_2.length c0_2) := (blk_cell BK202.out 2).trans rfl
                        have hcz96_3 : wc.cell? ⟨gb202, 3, none⟩ = some (.string a0_3) := (blk_cell BK202.out 3).trans rfl
                        have hcz96_4 : wc.cell? ⟨gb202, 4, none⟩ = some (.slice A0_4 l0_4.length c0_4) := (blk_cell BK202.out 4).trans rfl
                        have hcz96_5 : wc.cell? ⟨gb202, 5, none⟩ = some (.slice (some ad217) l0_5.length c0_5) := (blk_cell BK202.out 5).trans rfl
                        have hcz96_6 : wc.cell? ⟨gb202, 6, none⟩ = some (.slice A0_6 l0_6.length c0_6) := (blk_cell BK202.out 6).trans rfl
                        have hfz96_0 := blk_frozen BK202.out 0
                        have hfz96_1 := blk_frozen BK202.out 1
                        have hfz96_2 := blk_frozen BK202.out 2
                        have hfz96_3 := blk_frozen BK202.out 3
                        have hfz96_4 := blk_frozen BK202.out 4
                        have hfz96_5 := blk_frozen BK202.out 5
                        have hfz96_6 := blk_frozen BK202.out 6
                        have p221 : 0 ≤ ((ji91) : Int) := of_decide_eq_true (by first | (with_reducible assumption) | assumption)
                        have q221 : (ji91) < (l0_5.length : Int) := of_decide_eq_true (by first | (with_reducible assumption) | assumption)
                        obtain ⟨ad221, e221, hx221_0, hx221_1⟩ := at_T75 HR0_5.out (ji91) p221 q221
                        obtain rfl : ad217 = ad221 := (by injection e221)
                        try (replace hx221_0 := (HB.out.cell (World.block_lt_of_cell? w _ hx221_0)).trans hx221_0)
                        try (replace hx221_1 := (HB.out.cell (World.block_lt_of_cell? w _ hx221_1)).trans hx221_1)
                        replace p221 := eq_true p221
                        replace q221 := eq_true q221
                        go_wp2_with (first | ((with_reducible refine gate_dst (N := 11) rfl ?_); (try (refine gate_guard (by rfl) ?_; dsimp only)); refine box_event ?hg (N := 11) ?hd (cs := #[.string (⟨#[]⟩ : ByteArray), .string (⟨#[]⟩ : ByteArray)]) (t := 75) ?hr ?_; (case hd => rfl); (case hg => rfl); (case hr => first | (go_simp; done) | (go_simp; rfl)); intro gb222 hg w97 hbox hb; have n0_ := Aside0.mk (blk_below (g := gb202) (qK BK202.out) hb); have n1_ := Aside0.mk (blk_below (g := gb218) (qK BK218.out) hb); have n2_ := Aside0.mk (below_step (qH GE202.out GE218.out) hb); have n3_ := Aside0.mk (hbox); have n4_ := Aside0.mk ((by rw [hg]; exact (below_size (qH GE202.out GE218.out)) : w.heap.size ≤ gb222)); have n5_ := Aside0.mk ((by rw [hg]; exact (below_size (qH GE202.out GE218.out)) : w.heap.size ≤ gb222)); have n6_ := Aside0.mk ((by rw [hg]; exact Nat.ne_of_lt (blk_lt (g := gb202) (qK BK202.out)) : gb202 ≠ gb222)); have n7_ := Aside0.mk ((by rw [hg]; exact Nat.ne_of_gt (blk_lt (g := gb202) (qK BK202.out)) : gb222 ≠ gb202)); have n8_ := Aside0.mk ((by rw [hg]; exact Nat.ne_of_lt (blk_lt (g := gb218) (qK BK218.out)) : gb218 ≠ gb222)); have n9_ := Aside0.mk ((by rw [hg]; exact Nat.ne_of_gt (blk_lt (g := gb218) (qK BK218.out)) : gb222 ≠ gb218)); clear BK202; clear BK218; clear HB; have BK202 := n0_; have BK218 := n1_; have HB := n2_; have BK222 := n3_; have GW222 := n4_; have GE222 := n5_; have NB202_222 := n6_; have NB222_202 := n7_; have NB218_222 := n8_; have NB222_218 := n9_; clear n0_ n1_ n2_ n3_ n4_ n5_ n6_ n7_ n8_ n9_; clear hb hbox hg; have hnb98 := NB222_202.out; have hnc98 := NB202_222.out; have hnb99 := NB222_218.out; have hnc99 := NB218_222.out; have hcz100_0 : w97.cell? ⟨gb222, 0, none⟩ = some (.string (⟨#[]⟩ : ByteArray)) := (blk_cell BK222.out 0).trans rfl; have hcz100_1 : w97.cell? ⟨gb222, 1, none⟩ = some (.string (⟨#[]⟩ : ByteArray)) := (blk_cell BK222.out 1).trans rfl; have hfz100_0 := blk_frozen BK222.out 0; have hfz100_1 := blk_frozen BK222.out 1; have hcz101_0 : w97.cell? ⟨gb218, 0, none⟩ = some (.string ((rd_T75 l0_5 x139_5).f0)) := (blk_cell BK218.out 0).trans rfl; have hcz101_1 : w97.cell? ⟨gb218, 1, none⟩ = some (.string ((rd_T75 l0_5 x139_5).f1)) := (blk_cell BK218.out 1).trans rfl; have hfz101_0 := blk_frozen BK218.out 0; have hfz101_1 := blk_frozen BK218.out 1))
                        repeat (go_quiet (first | ((with_reducible refine gate_dst (N := 11) rfl ?_); (try (refine gate_guard (by rfl) ?_; dsimp only)); refine box_event ?hg (N := 11) ?hd (cs := #[.string (⟨#[]⟩ : ByteArray), .string (⟨#[]⟩ : ByteArray)]) (t := 75) ?hr ?_; (case hd => rfl); (case hg => rfl); (case hr => first | (go_simp; done) | (go_simp; rfl)); intro gb222 hg w97 hbox hb; have n0_ := Aside0.mk (blk_below (g := gb202) (qK BK202.out) hb); have n1_ := Aside0.mk (blk_below (g := gb218) (qK BK218.out) hb); have n2_ := Aside0.mk (below_step (qH GE202.out GE218.out) hb); have n3_ := Aside0.mk (hbox); have n4_ := Aside0.mk ((by rw [hg]; exact (below_size (qH GE202.out GE218.out)) : w.heap.size ≤ gb222)); have n5_ := Aside0.mk ((by rw [hg]; exact (below_size (qH GE202.out GE218.out)) : w.heap.size ≤ gb222)); have n6_ := Aside0.mk ((by rw [hg]; exact Nat.ne_of_lt (blk_lt (g := gb202) (qK BK202.out)) : gb202 ≠ gb222)); have n7_ := Aside0.mk ((by rw [hg]; exact Nat.ne_of_gt (blk_lt (g := gb202) (qK BK202.out)) : gb222 ≠ gb202)); have n8_ := Aside0.mk ((by rw [hg]; exact Nat.ne_of_lt (blk_lt (g := gb218) (qK BK218.out)) : gb218 ≠ gb222)); have n9_ := Aside0.mk ((by rw [hg]; exact Nat.ne_of_gt (blk_lt (g := gb218) (qK BK218.out)) : gb222 ≠ gb218)); clear BK202; clear BK218; clear HB; have BK202 := n0_; have BK218 := n1_; have HB := n2_; have BK222 := n3_; have GW222 := n4_; have GE222 := n5_; have NB202_222 := n6_; have NB222_202 := n7_; have NB218_222 := n8_; have NB222_218 := n9_; clear n0_ n1_ n2_ n3_ n4_ n5_ n6_ n7_ n8_ n9_; clear hb hbox hg; have hnb98 := NB222_202.out; have hnc98 := NB202_222.out; have hnb99 := NB222_218.out; have hnc99 := NB218_222.out; have hcz100_0 : w97.cell? ⟨gb222, 0, none⟩ = some (.string (⟨#[]⟩ : ByteArray)) := (blk_cell BK222.out 0).trans rfl; have hcz100_1 : w97.cell? ⟨gb222, 1, none⟩ = some (.string (⟨#[]⟩ : ByteArray)) := (blk_cell BK222.out 1).trans rfl; have hfz100_0 := blk_frozen BK222.out 0; have hfz100_1 := blk_frozen BK222.out 1; have hcz101_0 : w97.cell? ⟨gb218, 0, none⟩ = some (.string ((rd_T75 l0_5 x139_5).f0)) := (blk_cell BK218.out 0).trans rfl; have hcz101_1 : w97.cell? ⟨gb218, 1, none⟩ = some (.string ((rd_T75 l0_5 x139_5).f1)) := (blk_cell BK218.out 1).trans rfl; have hfz101_0 := blk_frozen BK218.out 0; have hfz101_1 := blk_frozen BK218.out 1)); try go_wp2_with (first | ((with_reducible refine gate_dst (N := 11) rfl ?_); (try (refine gate_guard (by rfl) ?_; dsimp only)); refine box_event ?hg (N := 11) ?hd (cs := #[.string (⟨#[]⟩ : ByteArray), .string (⟨#[]⟩ : ByteArray)]) (t := 75) ?hr ?_; (case hd => rfl); (case hg => rfl); (case hr => first | (go_simp; done) | (go_simp; rfl)); intro gb222 hg w97 hbox hb; have n0_ := Aside0.mk (blk_below (g := gb202) (qK BK202.out) hb); have n1_ := Aside0.mk (blk_below (g := gb218) (qK BK218.out) hb); have n2_ := Aside0.mk (below_step (qH GE202.out GE218.out) hb); have n3_ := Aside0.mk (hbox); have n4_ := Aside0.mk ((by rw [hg]; exact (below_size (qH GE202.out GE218.out)) : w.heap.size ≤ gb222)); have n5_ := Aside0.mk ((by rw [hg]; exact (below_size (qH GE202.out GE218.out)) : w.heap.size ≤ gb222)); have n6_ := Aside0.mk ((by rw [hg]; exact Nat.ne_of_lt (blk_lt (g := gb202) (qK BK202.out)) : gb202 ≠ gb222)); have n7_ := Aside0.mk ((by rw [hg]; exact Nat.ne_of_gt (blk_lt (g := gb202) (qK BK202.out)) : gb222 ≠ gb202)); have n8_ := Aside0.mk ((by rw [hg]; exact Nat.ne_of_lt (blk_lt (g := gb218) (qK BK218.out)) : gb218 ≠ gb222)); have n9_ := Aside0.mk ((by rw [hg]; exact Nat.ne_of_gt (blk_lt (g := gb218) (qK BK218.out)) : gb222 ≠ gb218)); clear BK202; clear BK218; clear HB; have BK202 := n0_; have BK218 := n1_; have HB := n2_; have BK222 := n3_; have GW222 := n4_; have GE222 := n5_; have NB202_222 := n6_; have NB222_202 := n7_; have NB218_222 := n8_; have NB222_218 := n9_; clear n0_ n1_ n2_ n3_ n4_ n5_ n6_ n7_ n8_ n9_; clear hb hbox hg; have hnb98 := NB222_202.out; have hnc98 := NB202_222.out; have hnb99 := NB222_218.out; have hnc99 := NB218_222.out; have hcz100_0 : w97.cell? ⟨gb222, 0, none⟩ = some (.string (⟨#[]⟩ : ByteArray)) := (blk_cell BK222.out 0).trans rfl; have hcz100_1 : w97.cell? ⟨gb222, 1, none⟩ = some (.string (⟨#[]⟩ : ByteArray)) := (blk_cell BK222.out 1).trans rfl; have hfz100_0 := blk_frozen BK222.out 0; have hfz100_1 := blk_frozen BK222.out 1; have hcz101_0 : w97.cell? ⟨gb218, 0, none⟩ = some (.string ((rd_T75 l0_5 x139_5).f0)) := (blk_cell BK218.out 0).trans rfl; have hcz101_1 : w97.cell? ⟨gb218, 1, none⟩ = some (.string ((rd_T75 l0_5 x139_5).f1)) := (blk_cell BK218.out 1).trans rfl; have hfz101_0 := blk_frozen BK218.out 0; have hfz101_1 := blk_frozen BK218.out 1)))
                        go_ret
                        exact ⟨by first | rfl | (simp [errW_none, errW_some] <;> rfl) | (simp only [← hji91]; first | rfl | (simp [errW_none, errW_some] <;> rfl)) | (simp [*, errW_none, errW_some] <;> rfl), by repeat (first | (with_reducible first | exact HB.out | apply below_alloc | apply pw_below_drewN | apply below_drew1 | refine below_set ?_ GE202.out | refine below_set ?_ GE218.out | refine below_set ?_ GE222.out) | exact HB.out)⟩
                       ·rw [if_neg c94] at H
                        have c94b0 : (Op.bytesLess ((rd_T75 l0_5 x139_5).f0).toList (((rd_T75 l0_5 (ji91)).f0).toList)) = false := by simpa using c94
                        have c94b0l3 := leq_l3 c94b0
                        clear c94
                        by_cases c102 : ((rd_T75 l0_5 x139_5).f0).toList = ((rd_T75 l0_5 (ji91)).f0).toList
                        ·rw [if_pos c102] at H
                         have c102b0 : (((rd_T75 l0_5 x139_5).f0).toList == ((rd_T75 l0_5 (ji91)).f0).toList) = true := beq_iff_eq.mpr c102
                         have c102b1 : (((rd_T75 l0_5 x139_5).f0).toList != ((rd_T75 l0_5 (ji91)).f0).toList) = false := bne_eq_false_iff_eq.mpr c102
                         clear c102
                         by_cases c103 : ((Op.bytesLess (((rd_T75 l0_5 (ji91)).f1).toList) ((rd_T75 l0_5 x139_5).f1).toList) = true)
                         ·rw [if_pos c103] at H
                          have c103b0 : (Op.bytesLess (((rd_T75 l0_5 (ji91)).f1).toList) ((rd_T75 l0_5 x139_5).f1).toList) = true := c103
                          have c103b0l1 := leq_l1 c103b0
                          have c103b0l2 := leq_l2 c103b0
                          clear c103
                          have H' := Aside0.mk H
                          clear H
                          have hnb104 := NB202_218.out
                          have hnc104 := NB218_202.out
                          have hcz105_0 : wc.cell? ⟨gb202, 0, none⟩ = some (.string a0_0) := (blk_cell BK202.out 0).trans rfl
                          have hcz105_1 : wc.cell? ⟨gb202, 1, none⟩ = some (.string a0_1) := (blk_cell BK202.out 1).trans rfl
                          have hcz105_2 : wc.cell? ⟨gb202, 2, none⟩ = some (.slice A0_2 l0_2.length c0_2) := (blk_cell BK202.out 2).trans rfl
                          have hcz105_3 : wc.cell? ⟨gb202, 3, none⟩ = some (.string a0_3) := (blk_cell BK202.out 3).trans rfl
                          have hcz105_4 : wc.cell? ⟨gb202, 4, none⟩ = some (.slice A0_4 l0_4.length c0_4) := (blk_cell BK202.out 4).trans rfl
                          have hcz105_5 : wc.cell? ⟨gb202, 5, none⟩ = some (.slice (some ad217) l0_5.length c0_5) := (blk_cell BK202.out 5).trans rfl
                          have hcz105_6 : wc.cell? ⟨gb202, 6, none⟩ = some (.slice A0_6 l0_6.length c0_6) := (blk_cell BK202.out 6).trans rfl
                          have hfz105_0 := blk_frozen BK202.out 0
                          have hfz105_1 := blk_frozen BK202.out 1
                          have hfz105_2 := blk_frozen BK202.out 2
                          have hfz105_3 := blk_frozen BK202.out 3
                          have hfz105_4 := blk_frozen BK202.out 4
                          have hfz105_5 := blk_frozen BK202.out 5
                          have hfz105_6 := blk_frozen BK202.out 6
                          have p221 : 0 ≤ ((ji91) : Int) := of_decide_eq_true (by first | (with_reducible assumption) | assumption)
                          have q221 : (ji91) < (l0_5.length : Int) := of_decide_eq_true (by first | (with_reducible assumption) | assumption)
                          obtain ⟨ad221, e221, hx221_0, hx221_1⟩ := at_T75 HR0_5.out (ji91) p221 q221
                          obtain rfl : ad217 = ad221 := (by injection e221)
                          try (replace hx221_0 := (HB.out.cell (World.block_lt_of_cell? w _ hx221_0)).trans hx221_0)
                          try (replace hx221_1 := (HB.out.cell (World.block_lt_of_cell? w _ hx221_1)).trans hx221_1)
                          replace p221 := eq_true p221
                          replace q221 := eq_true q221
                          go_wp2_with (first | ((with_reducible refine gate_dst (N := 11) rfl ?_); (try (refine gate_guard (by rfl) ?_; dsimp only)); refine box_event ?hg (N := 11) ?hd (cs := #[.string (⟨#[]⟩ : ByteArray), .string (⟨#[]⟩ : ByteArray)]) (t := 75) ?hr ?_; (case hd => rfl); (case hg => rfl); (case hr => first | (go_simp; done) | (go_simp; rfl)); intro gb222 hg w106 hbox hb; have n0_ := Aside0.mk (blk_below (g := gb202) (qK BK202.out) hb); have n1_ := Aside0.mk (blk_below (g := gb218) (qK BK218.out) hb); have n2_ := Aside0.mk (below_step (qH GE202.out GE218.out) hb); have n3_ := Aside0.mk (hbox); have n4_ := Aside0.mk ((by rw [hg]; exact (below_size (qH GE202.out GE218.out)) : w.heap.size ≤ gb222)); have n5_ := Aside0.mk ((by rw [hg]; exact (below_size (qH GE202.out GE218.out)) : w.heap.size ≤ gb222)); have n6_ := Aside0.mk ((by rw [hg]; exact Nat.ne_of_lt (blk_lt (g := gb202) (qK BK202.out)) : gb202 ≠ gb222)); have n7_ := Aside0.mk ((by rw [hg]; exact Nat.ne_of_gt (blk_lt (g := gb202) (qK BK202.out)) : gb222 ≠ gb202)); have n8_ := Aside0.mk ((by rw [hg]; exact Nat.ne_of_lt (blk_lt (g := gb218) (qK BK218.out)) : gb218 ≠ gb222)); have n9_ := Aside0.mk ((by rw [hg]; exact Nat.ne_of_gt (blk_lt (g := gb218) (qK BK218.out)) : gb222 ≠ gb218)); clear BK202; clear BK218; clear HB; have BK202 := n0_; have BK218 := n1_; have HB := n2_; have BK222 := n3_; have GW222 := n4_; have GE222 := n5_; have NB202_222 := n6_; have NB222_202 := n7_; have NB218_222 := n8_; have NB222_218 := n9_; clear n0_ n1_ n2_ n3_ n4_ n5_ n6_ n7_ n8_ n9_; clear hb hbox hg; have hnb107 := NB222_202.out; have hnc107 := NB202_222.out; have hnb108 := NB222_218.out; have hnc108 := NB218_222.out; have hcz109_0 : w106.cell? ⟨gb222, 0, none⟩ = some (.string (⟨#[]⟩ : ByteArray)) := (blk_cell BK222.out 0).trans rfl; have hcz109_1 : w106.cell? ⟨gb222, 1, none⟩ = some (.string (⟨#[]⟩ : ByteArray)) := (blk_cell BK222.out 1).trans rfl; have hfz109_0 := blk_frozen BK222.out 0; have hfz109_1 := blk_frozen BK222.out 1; have hcz110_0 : w106.cell? ⟨gb218, 0, none⟩ = some (.string ((rd_T75 l0_5 x139_5).f0)) := (blk_cell BK218.out 0).trans rfl; have hcz110_1 : w106.cell? ⟨gb218, 1, none⟩ = some (.string ((rd_T75 l0_5 x139_5).f1)) := (blk_cell BK218.out 1).trans rfl; have hfz110_0 := blk_frozen BK218.out 0; have hfz110_1 := blk_frozen BK218.out 1))
                          repeat (go_quiet (first | ((with_reducible refine gate_dst (N := 11) rfl ?_); (try (refine gate_guard (by rfl) ?_; dsimp only)); refine box_event ?hg (N := 11) ?hd (cs := #[.string (⟨#[]⟩ : ByteArray), .string (⟨#[]⟩ : ByteArray)]) (t := 75) ?hr ?_; (case hd => rfl); (case hg => rfl); (case hr => first | (go_simp; done) | (go_simp; rfl)); intro gb222 hg w106 hbox hb; have n0_ := Aside0.mk (blk_below (g := gb202) (qK BK202.out) hb); have n1_ := Aside0.mk (blk_below (g := gb218) (qK BK218.out) hb); have n2_ := Aside0.mk (below_step (qH GE202.out GE218.out) hb); have n3_ := Aside0.mk (hbox); have n4_ := Aside0.mk ((by rw [hg]; exact (below_size (qH GE202.out GE218.out)) : w.heap.size ≤ gb222)); have n5_ := Aside0.mk ((by rw [hg]; exact (below_size (qH GE202.out GE218.out)) : w.heap.size ≤ gb222)); have n6_ := Aside0.mk ((by rw [hg]; exact Nat.ne_of_lt (blk_lt (g := gb202) (qK BK202.out)) : gb202 ≠ gb222)); have n7_ := Aside0.mk ((by rw [hg]; exact Nat.ne_of_gt (blk_lt (g := gb202) (qK BK202.out)) : gb222 ≠ gb202)); have n8_ := Aside0.mk ((by rw [hg]; exact Nat.ne_of_lt (blk_lt (g := gb218) (qK BK218.out)) : gb218 ≠ gb222)); have n9_ := Aside0.mk ((by rw [hg]; exact Nat.ne_of_gt (blk_lt (g := gb218) (qK BK218.out)) : gb222 ≠ gb218)); clear BK202; clear BK218; clear HB; have BK202 := n0_; have BK218 := n1_; have HB := n2_; have BK222 := n3_; have GW222 := n4_; have GE222 := n5_; have NB202_222 := n6_; have NB222_202 := n7_; have NB218_222 := n8_; have NB222_218 := n9_; clear n0_ n1_ n2_ n3_ n4_ n5_ n6_ n7_ n8_ n9_; clear hb hbox hg; have hnb107 := NB222_202.out; have hnc107 := NB202_222.out; have hnb108 := NB222_218.out; have hnc108 := NB218_222.out; have hcz109_0 : w106.cell? ⟨gb222, 0, none⟩ = some (.string (⟨#[]⟩ : ByteArray)) := (blk_cell BK222.out 0).trans rfl; have hcz109_1 : w106.cell? ⟨gb222, 1, none⟩ = some (.string (⟨#[]⟩ : ByteArray)) := (blk_cell BK222.out 1).trans rfl; have hfz109_0 := blk_frozen BK222.out 0; have hfz109_1 := blk_frozen BK222.out 1; have hcz110_0 : w106.cell? ⟨gb218, 0, none⟩ = some (.string ((rd_T75 l0_5 x139_5).f0)) := (blk_cell BK218.out 0).trans rfl; have hcz110_1 : w106.cell? ⟨gb218, 1, none⟩ = some (.string ((rd_T75 l0_5 x139_5).f1)) := (blk_cell BK218.out 1).trans rfl; have hfz110_0 := blk_frozen BK218.out 0; have hfz110_1 := blk_frozen BK218.out 1)); try go_wp2_with (first | ((with_reducible refine gate_dst (N := 11) rfl ?_); (try (refine gate_guard (by rfl) ?_; dsimp only)); refine box_event ?hg (N := 11) ?hd (cs := #[.string (⟨#[]⟩ : ByteArray), .string (⟨#[]⟩ : ByteArray)]) (t := 75) ?hr ?_; (case hd => rfl); (case hg => rfl); (case hr => first | (go_simp; done) | (go_simp; rfl)); intro gb222 hg w106 hbox hb; have n0_ := Aside0.mk (blk_below (g := gb202) (qK BK202.out) hb); have n1_ := Aside0.mk (blk_below (g := gb218) (qK BK218.out) hb); have n2_ := Aside0.mk (below_step (qH GE202.out GE218.out) hb); have n3_ := Aside0.mk (hbox); have n4_ := Aside0.mk ((by rw [hg]; exact (below_size (qH GE202.out GE218.out)) : w.heap.size ≤ gb222)); have n5_ := Aside0.mk ((by rw [hg]; exact (below_size (qH GE202.out GE218.out)) : w.heap.size ≤ gb222)); have n6_ := Aside0.mk ((by rw [hg]; exact Nat.ne_of_lt (blk_lt (g := gb202) (qK BK202.out)) : gb202 ≠ gb222)); have n7_ := Aside0.mk ((by rw [hg]; exact Nat.ne_of_gt (blk_lt (g := gb202) (qK BK202.out)) : gb222 ≠ gb202)); have n8_ := Aside0.mk ((by rw [hg]; exact Nat.ne_of_lt (blk_lt (g := gb218) (qK BK218.out)) : gb218 ≠ gb222)); have n9_ := Aside0.mk ((by rw [hg]; exact Nat.ne_of_gt (blk_lt (g := gb218) (qK BK218.out)) : gb222 ≠ gb218)); clear BK202; clear BK218; clear HB; have BK202 := n0_; have BK218 := n1_; have HB := n2_; have BK222 := n3_; have GW222 := n4_; have GE222 := n5_; have NB202_222 := n6_; have NB222_202 := n7_; have NB218_222 := n8_; have NB222_218 := n9_; clear n0_ n1_ n2_ n3_ n4_ n5_ n6_ n7_ n8_ n9_; clear hb hbox hg; have hnb107 := NB222_202.out; have hnc107 := NB202_222.out; have hnb108 := NB222_218.out; have hnc108 := NB218_222.out; have hcz109_0 : w106.cell? ⟨gb222, 0, none⟩ = some (.string (⟨#[]⟩ : ByteArray)) := (blk_cell BK222.out 0).trans rfl; have hcz109_1 : w106.cell? ⟨gb222, 1, none⟩ = some (.string (⟨#[]⟩ : ByteArray)) := (blk_cell BK222.out 1).trans rfl; have hfz109_0 := blk_frozen BK222.out 0; have hfz109_1 := blk_frozen BK222.out 1; have hcz110_0 : w106.cell? ⟨gb218, 0, none⟩ = some (.string ((rd_T75 l0_5 x139_5).f0)) := (blk_cell BK218.out 0).trans rfl; have hcz110_1 : w106.cell? ⟨gb218, 1, none⟩ = some (.string ((rd_T75 l0_5 x139_5).f1)) := (blk_cell BK218.out 1).trans rfl; have hfz110_0 := blk_frozen BK218.out 0; have hfz110_1 := blk_frozen BK218.out 1)))
                          go_roundg kj77
                          case measure => have := HJ1.out; have := HK2.out; have := HJ31.out; have := HK4.out; have := HK5.out; have := HJ77.out; omega
                          case rel => exact ⟨(wrap64 (x139_5 + 1)), (by first | rfl | (simp; done) | (simp [*]; done)), H', ⟨by have := HJ1.out; have := HK2.out; have := HJ31.out; have := HK4.out; have := HK5.out; have := HJ77.out; omega⟩, ⟨by (with_reducible repeat (first | refine blk_drewN ?_ _ | refine blk_drew ?_ | refine blk_alloc ?_ _)); refine blk_far ?_ NB202_222.out _; (with_reducible repeat (first | refine blk_drewN ?_ _ | refine blk_drew ?_ | refine blk_alloc ?_ _)); refine blk_far ?_ NB202_222.out _; (with_reducible repeat (first | refine blk_drewN ?_ _ | refine blk_drew ?_ | refine blk_alloc ?_ _)); exact BK202.out⟩, ⟨by repeat (first | (with_reducible first | exact HB.out | apply below_alloc | apply pw_below_drewN | apply below_drew1 | refine below_set ?_ GE202.out | refine below_set ?_ GE218.out | refine below_set ?_ GE222.out) | exact HB.out)⟩⟩
                         ·rw [if_neg c103] at H
                          have c103b0 : (Op.bytesLess (((rd_T75 l0_5 (ji91)).f1).toList) ((rd_T75 l0_5 x139_5).f1).toList) = false := by simpa using c103
                          have c103b0l3 := leq_l3 c103b0
                          clear c103
                          obtain rfl := Option.some.inj H
                          have hnb111 := NB202_218.out
                          have hnc111 := NB218_202.out
                          have hcz112_0 : wc.cell? ⟨gb202, 0, none⟩ = some (.string a0_0) := (blk_cell BK202.out 0).trans rfl
                          have hcz112_1 : wc.cell? ⟨gb202, 1, none⟩ = some (.string a0_1) := (blk_cell BK202.out 1).trans rfl
                          have hcz112_2 : wc.cell? ⟨gb202, 2, none⟩ = some (.slice A0_2 l0_2.length c0_2) := (blk_cell BK202.out 2).trans rfl
                          have hcz112_3 : wc.cell? ⟨gb202, 3, none⟩ = some (.string a0_3) := (blk_cell BK202.out 3).trans rfl
                          have hcz112_4 : wc.cell? ⟨gb202, 4, none⟩ = some (.slice A0_4 l0_4.length c0_4) := (blk_cell BK202.out 4).trans rfl
                          have hcz112_5 : wc.cell? ⟨gb202, 5, none⟩ = some (.slice (some ad217) l0_5.length c0_5) := (blk_cell BK202.out 5).trans rfl
                          have hcz112_6 : wc.cell? ⟨gb202, 6, none⟩ = some (.slice A0_6 l0_6.length c0_6) := (blk_cell BK202.out 6).trans rfl
                          have hfz112_0 := blk_frozen BK202.out 0
                          have hfz112_1 := blk_frozen BK202.out 1
                          have hfz112_2 := blk_frozen BK202.out 2
                          have hfz112_3 := blk_frozen BK202.out 3
                          have hfz112_4 := blk_frozen BK202.out 4
                          have hfz112_5 := blk_frozen BK202.out 5
                          have hfz112_6 := blk_frozen BK202.out 6
                          have p221 : 0 ≤ ((ji91) : Int) := of_decide_eq_true (by first | (with_reducible assumption) | assumption)
                          have q221 : (ji91) < (l0_5.length : Int) := of_decide_eq_true (by first | (with_reducible assumption) | assumption)
                          obtain ⟨ad221, e221, hx221_0, hx221_1⟩ := at_T75 HR0_5.out (ji91) p221 q221
                          obtain rfl : ad217 = ad221 := (by injection e221)
                          try (replace hx221_0 := (HB.out.cell (World.block_lt_of_cell? w _ hx221_0)).trans hx221_0)
                          try (replace hx221_1 := (HB.out.cell (World.block_lt_of_cell? w _ hx221_1)).trans hx221_1)
                          replace p221 := eq_true p221
                          replace q221 := eq_true q221
                          go_wp2_with (first | ((with_reducible refine gate_dst (N := 11) rfl ?_); (try (refine gate_guard (by rfl) ?_; dsimp only)); refine box_event ?hg (N := 11) ?hd (cs := #[.string (⟨#[]⟩ : ByteArray), .string (⟨#[]⟩ : ByteArray)]) (t := 75) ?hr ?_; (case hd => rfl); (case hg => rfl); (case hr => first | (go_simp; done) | (go_simp; rfl)); intro gb222 hg w113 hbox hb; have n0_ := Aside0.mk (blk_below (g := gb202) (qK BK202.out) hb); have n1_ := Aside0.mk (blk_below (g := gb218) (qK BK218.out) hb); have n2_ := Aside0.mk (below_step (qH GE202.out GE218.out) hb); have n3_ := Aside0.mk (hbox); have n4_ := Aside0.mk ((by rw [hg]; exact (below_size (qH GE202.out GE218.out)) : w.heap.size ≤ gb222)); have n5_ := Aside0.mk ((by rw [hg]; exact (below_size (qH GE202.out GE218.out)) : w.heap.size ≤ gb222)); have n6_ := Aside0.mk ((by rw [hg]; exact Nat.ne_of_lt (blk_lt (g := gb202) (qK BK202.out)) : gb202 ≠ gb222)); have n7_ := Aside0.mk ((by rw [hg]; exact Nat.ne_of_gt (blk_lt (g := gb202) (qK BK202.out)) : gb222 ≠ gb202)); have n8_ := Aside0.mk ((by rw [hg]; exact Nat.ne_of_lt (blk_lt (g := gb218) (qK BK218.out)) : gb218 ≠ gb222)); have n9_ := Aside0.mk ((by rw [hg]; exact Nat.ne_of_gt (blk_lt (g := gb218) (qK BK218.out)) : gb222 ≠ gb218)); clear BK202; clear BK218; clear HB; have BK202 := n0_; have BK218 := n1_; have HB := n2_; have BK222 := n3_; have GW222 := n4_; have GE222 := n5_; have NB202_222 := n6_; have NB222_202 := n7_; have NB218_222 := n8_; have NB222_218 := n9_; clear n0_ n1_ n2_ n3_ n4_ n5_ n6_ n7_ n8_ n9_; clear hb hbox hg; have hnb114 := NB222_202.out; have hnc114 := NB202_222.out; have hnb115 := NB222_218.out; have hnc115 := NB218_222.out; have hcz116_0 : w113.cell? ⟨gb222, 0, none⟩ = some (.string (⟨#[]⟩ : ByteArray)) := (blk_cell BK222.out 0).trans rfl; have hcz116_1 : w113.cell? ⟨gb222, 1, none⟩ = some (.string (⟨#[]⟩ : ByteArray)) := (blk_cell BK222.out 1).trans rfl; have hfz116_0 := blk_frozen BK222.out 0; have hfz116_1 := blk_frozen BK222.out 1; have hcz117_0 : w113.cell? ⟨gb218, 0, none⟩ = some (.string ((rd_T75 l0_5 x139_5).f0)) := (blk_cell BK218.out 0).trans rfl; have hcz117_1 : w113.cell? ⟨gb218, 1, none⟩ = some (.string ((rd_T75 l0_5 x139_5).f1)) := (blk_cell BK218.out 1).trans rfl; have hfz117_0 := blk_frozen BK218.out 0; have hfz117_1 := blk_frozen BK218.out 1))
                          repeat (go_quiet (first | ((with_reducible refine gate_dst (N := 11) rfl ?_); (try (refine gate_guard (by rfl) ?_; dsimp only)); refine box_event ?hg (N := 11) ?hd (cs := #[.string (⟨#[]⟩ : ByteArray), .string (⟨#[]⟩ : ByteArray)]) (t := 75) ?hr ?_; (case hd => rfl); (case hg => rfl); (case hr => first | (go_simp; done) | (go_simp; rfl)); intro gb222 hg w113 hbox hb; have n0_ := Aside0.mk (blk_below (g := gb202) (qK BK202.out) hb); have n1_ := Aside0.mk (blk_below (g := gb218) (qK BK218.out) hb); have n2_ := Aside0.mk (below_step (qH GE202.out GE218.out) hb); have n3_ := Aside0.mk (hbox); have n4_ := Aside0.mk ((by rw [hg]; exact (below_size (qH GE202.out GE218.out)) : w.heap.size ≤ gb222)); have n5_ := Aside0.mk ((by rw [hg]; exact (below_size (qH GE202.out GE218.out)) : w.heap.size ≤ gb222)); have n6_ := Aside0.mk ((by rw [hg]; exact Nat.ne_of_lt (blk_lt (g := gb202) (qK BK202.out)) : gb202 ≠ gb222)); have n7_ := Aside0.mk ((by rw [hg]; exact Nat.ne_of_gt (blk_lt (g := gb202) (qK BK202.out)) : gb222 ≠ gb202)); have n8_ := Aside0.mk ((by rw [hg]; exact Nat.ne_of_lt (blk_lt (g := gb218) (qK BK218.out)) : gb218 ≠ gb222)); have n9_ := Aside0.mk ((by rw [hg]; exact Nat.ne_of_gt (blk_lt (g := gb218) (qK BK218.out)) : gb222 ≠ gb218)); clear BK202; clear BK218; clear HB; have BK202 := n0_; have BK218 := n1_; have HB := n2_; have BK222 := n3_; have GW222 := n4_; have GE222 := n5_; have NB202_222 := n6_; have NB222_202 := n7_; have NB218_222 := n8_; have NB222_218 := n9_; clear n0_ n1_ n2_ n3_ n4_ n5_ n6_ n7_ n8_ n9_; clear hb hbox hg; have hnb114 := NB222_202.out; have hnc114 := NB202_222.out; have hnb115 := NB222_218.out; have hnc115 := NB218_222.out; have hcz116_0 : w113.cell? ⟨gb222, 0, none⟩ = some (.string (⟨#[]⟩ : ByteArray)) := (blk_cell BK222.out 0).trans rfl; have hcz116_1 : w113.cell? ⟨gb222, 1, none⟩ = some (.string (⟨#[]⟩ : ByteArray)) := (blk_cell BK222.out 1).trans rfl; have hfz116_0 := blk_frozen BK222.out 0; have hfz116_1 := blk_frozen BK222.out 1; have hcz117_0 : w113.cell? ⟨gb218, 0, none⟩ = some (.string ((rd_T75 l0_5 x139_5).f0)) := (blk_cell BK218.out 0).trans rfl; have hcz117_1 : w113.cell? ⟨gb218, 1, none⟩ = some (.string ((rd_T75 l0_5 x139_5).f1)) := (blk_cell BK218.out 1).trans rfl; have hfz117_0 := blk_frozen BK218.out 0; have hfz117_1 := blk_frozen BK218.out 1)); try go_wp2_with (first | ((with_reducible refine gate_dst (N := 11) rfl ?_); (try (refine gate_guard (by rfl) ?_; dsimp only)); refine box_event ?hg (N := 11) ?hd (cs := #[.string (⟨#[]⟩ : ByteArray), .string (⟨#[]⟩ : ByteArray)]) (t := 75) ?hr ?_; (case hd => rfl); (case hg => rfl); (case hr => first | (go_simp; done) | (go_simp; rfl)); intro gb222 hg w113 hbox hb; have n0_ := Aside0.mk (blk_below (g := gb202) (qK BK202.out) hb); have n1_ := Aside0.mk (blk_below (g := gb218) (qK BK218.out) hb); have n2_ := Aside0.mk (below_step (qH GE202.out GE218.out) hb); have n3_ := Aside0.mk (hbox); have n4_ := Aside0.mk ((by rw [hg]; exact (below_size (qH GE202.out GE218.out)) : w.heap.size ≤ gb222)); have n5_ := Aside0.mk ((by rw [hg]; exact (below_size (qH GE202.out GE218.out)) : w.heap.size ≤ gb222)); have n6_ := Aside0.mk ((by rw [hg]; exact Nat.ne_of_lt (blk_lt (g := gb202) (qK BK202.out)) : gb202 ≠ gb222)); have n7_ := Aside0.mk ((by rw [hg]; exact Nat.ne_of_gt (blk_lt (g := gb202) (qK BK202.out)) : gb222 ≠ gb202)); have n8_ := Aside0.mk ((by rw [hg]; exact Nat.ne_of_lt (blk_lt (g := gb218) (qK BK218.out)) : gb218 ≠ gb222)); have n9_ := Aside0.mk ((by rw [hg]; exact Nat.ne_of_gt (blk_lt (g := gb218) (qK BK218.out)) : gb222 ≠ gb218)); clear BK202; clear BK218; clear HB; have BK202 := n0_; have BK218 := n1_; have HB := n2_; have BK222 := n3_; have GW222 := n4_; have GE222 := n5_; have NB202_222 := n6_; have NB222_202 := n7_; have NB218_222 := n8_; have NB222_218 := n9_; clear n0_ n1_ n2_ n3_ n4_ n5_ n6_ n7_ n8_ n9_; clear hb hbox hg; have hnb114 := NB222_202.out; have hnc114 := NB202_222.out; have hnb115 := NB222_218.out; have hnc115 := NB218_222.out; have hcz116_0 : w113.cell? ⟨gb222, 0, none⟩ = some (.string (⟨#[]⟩ : ByteArray)) := (blk_cell BK222.out 0).trans rfl; have hcz116_1 : w113.cell? ⟨gb222, 1, none⟩ = some (.string (⟨#[]⟩ : ByteArray)) := (blk_cell BK222.out 1).trans rfl; have hfz116_0 := blk_frozen BK222.out 0; have hfz116_1 := blk_frozen BK222.out 1; have hcz117_0 : w113.cell? ⟨gb218, 0, none⟩ = some (.string ((rd_T75 l0_5 x139_5).f0)) := (blk_cell BK218.out 0).trans rfl; have hcz117_1 : w113.cell? ⟨gb218, 1, none⟩ = some (.string ((rd_T75 l0_5 x139_5).f1)) := (blk_cell BK218.out 1).trans rfl; have hfz117_0 := blk_frozen BK218.out 0; have hfz117_1 := blk_frozen BK218.out 1)))
                          go_ret
                          exact ⟨by first | rfl | (simp [errW_none, errW_some] <;> rfl) | (simp only [← hji91]; first | rfl | (simp [errW_none, errW_some] <;> rfl)) | (simp [*, errW_none, errW_some] <;> rfl), by repeat (first | (with_reducible first | exact HB.out | apply below_alloc | apply pw_below_drewN | apply below_drew1 | refine below_set ?_ GE202.out | refine below_set ?_ GE218.out | refine below_set ?_ GE222.out) | exact HB.out)⟩
                        ·rw [if_neg c102] at H
                         have c102b0 : (((rd_T75 l0_5 x139_5).f0).toList == ((rd_T75 l0_5 (ji91)).f0).toList) = false := beq_eq_false_iff_ne.mpr c102
                         have c102b1 : (((rd_T75 l0_5 x139_5).f0).toList != ((rd_T75 l0_5 (ji91)).f0).toList) = true := bne_iff_ne.mpr c102
                         have H' := Aside0.mk H
                         clear H
                         have hnb118 := NB202_218.out
                         have hnc118 := NB218_202.out
                         have hcz119_0 : wc.cell? ⟨gb202, 0, none⟩ = some (.string a0_0) := (blk_cell BK202.out 0).trans rfl
                         have hcz119_1 : wc.cell? ⟨gb202, 1, none⟩ = some (.string a0_1) := (blk_cell BK202.out 1).trans rfl
                         have hcz119_2 : wc.cell? ⟨gb202, 2, none⟩ = some (.slice A0_2 l0_2.length c0_2) := (blk_cell BK202.out 2).trans rfl
                         have hcz119_3 : wc.cell? ⟨gb202, 3, none⟩ = some (.string a0_3) := (blk_cell BK202.out 3).trans rfl
                         have hcz119_4 : wc.cell? ⟨gb202, 4, none⟩ = some (.slice A0_4 l0_4.length c0_4) := (blk_cell BK202.out 4).trans rfl
                         have hcz119_5 : wc.cell? ⟨gb202, 5, none⟩ = some (.slice (some ad217) l0_5.length c0_5) := (blk_cell BK202.out 5).trans rfl
                         have hcz119_6 : wc.cell? ⟨gb202, 6, none⟩ = some (.slice A0_6 l0_6.length c0_6) := (blk_cell BK202.out 6).trans rfl
                         have hfz119_0 := blk_frozen BK202.out 0
                         have hfz119_1 := blk_frozen BK202.out 1
                         have hfz119_2 := blk_frozen BK202.out 2
                         have hfz119_3 := blk_frozen BK202.out 3
                         have hfz119_4 := blk_frozen BK202.out 4
                         have hfz119_5 := blk_frozen BK202.out 5
                         have hfz119_6 := blk_frozen BK202.out 6
                         have p221 : 0 ≤ ((ji91) : Int) := of_decide_eq_true (by first | (with_reducible assumption) | assumption)
                         have q221 : (ji91) < (l0_5.length : Int) := of_decide_eq_true (by first | (with_reducible assumption) | assumption)
                         obtain ⟨ad221, e221, hx221_0, hx221_1⟩ := at_T75 HR0_5.out (ji91) p221 q221
                         obtain rfl : ad217 = ad221 := (by injection e221)
                         try (replace hx221_0 := (HB.out.cell (World.block_lt_of_cell? w _ hx221_0)).trans hx221_0)
                         try (replace hx221_1 := (HB.out.cell (World.block_lt_of_cell? w _ hx221_1)).trans hx221_1)
                         replace p221 := eq_true p221
                         replace q221 := eq_true q221
                         go_wp2_with (first | ((with_reducible refine gate_dst (N := 11) rfl ?_); (try (refine gate_guard (by rfl) ?_; dsimp only)); refine box_event ?hg (N := 11) ?hd (cs := #[.string (⟨#[]⟩ : ByteArray), .string (⟨#[]⟩ : ByteArray)]) (t := 75) ?hr ?_; (case hd => rfl); (case hg => rfl); (case hr => first | (go_simp; done) | (go_simp; rfl)); intro gb222 hg w120 hbox hb; have n0_ := Aside0.mk (blk_below (g := gb202) (qK BK202.out) hb); have n1_ := Aside0.mk (blk_below (g := gb218) (qK BK218.out) hb); have n2_ := Aside0.mk (below_step (qH GE202.out GE218.out) hb); have n3_ := Aside0.mk (hbox); have n4_ := Aside0.mk ((by rw [hg]; exact (below_size (qH GE202.out GE218.out)) : w.heap.size ≤ gb222)); have n5_ := Aside0.mk ((by rw [hg]; exact (below_size (qH GE202.out GE218.out)) : w.heap.size ≤ gb222)); have n6_ := Aside0.mk ((by rw [hg]; exact Nat.ne_of_lt (blk_lt (g := gb202) (qK BK202.out)) : gb202 ≠ gb222)); have n7_ := Aside0.mk ((by rw [hg]; exact Nat.ne_of_gt (blk_lt (g := gb202) (qK BK202.out)) : gb222 ≠ gb202)); have n8_ := Aside0.mk ((by rw [hg]; exact Nat.ne_of_lt (blk_lt (g := gb218) (qK BK218.out)) : gb218 ≠ gb222)); have n9_ := Aside0.mk ((by rw [hg]; exact Nat.ne_of_gt (blk_lt (g := gb218) (qK BK218.out)) : gb222 ≠ gb218)); clear BK202; clear BK218; clear HB; have BK202 := n0_; have BK218 := n1_; have HB := n2_; have BK222 := n3_; have GW222 := n4_; have GE222 := n5_; have NB202_222 := n6_; have NB222_202 := n7_; have NB218_222 := n8_; have NB222_218 := n9_; clear n0_ n1_ n2_ n3_ n4_ n5_ n6_ n7_ n8_ n9_; clear hb hbox hg; have hnb121 := NB222_202.out; have hnc121 := NB202_222.out; have hnb122 := NB222_218.out; have hnc122 := NB218_222.out; have hcz123_0 : w120.cell? ⟨gb222, 0, none⟩ = some (.string (⟨#[]⟩ : ByteArray)) := (blk_cell BK222.out 0).trans rfl; have hcz123_1 : w120.cell? ⟨gb222, 1, none⟩ = some (.string (⟨#[]⟩ : ByteArray)) := (blk_cell BK222.out 1).trans rfl; have hfz123_0 := blk_frozen BK222.out 0; have hfz123_1 := blk_frozen BK222.out 1; have hcz124_0 : w120.cell? ⟨gb218, 0, none⟩ = some (.string ((rd_T75 l0_5 x139_5).f0)) := (blk_cell BK218.out 0).trans rfl; have hcz124_1 : w120.cell? ⟨gb218, 1, none⟩ = some (.string ((rd_T75 l0_5 x139_5).f1)) := (blk_cell BK218.out 1).trans rfl; have hfz124_0 := blk_frozen BK218.out 0; have hfz124_1 := blk_frozen BK218.out 1))
                         repeat (go_quiet (first | ((with_reducible refine gate_dst (N := 11) rfl ?_); (try (refine gate_guard (by rfl) ?_; dsimp only)); refine box_event ?hg (N := 11) ?hd (cs := #[.string (⟨#[]⟩ : ByteArray), .string (⟨#[]⟩ : ByteArray)]) (t := 75) ?hr ?_; (case hd => rfl); (case hg => rfl); (case hr => first | (go_simp; done) | (go_simp; rfl)); intro gb222 hg w120 hbox hb; have n0_ := Aside0.mk (blk_below (g := gb202) (qK BK202.out) hb); have n1_ := Aside0.mk (blk_below (g := gb218) (qK BK218.out) hb); have n2_ := Aside0.mk (below_step (qH GE202.out GE218.out) hb); have n3_ := Aside0.mk (hbox); have n4_ := Aside0.mk ((by rw [hg]; exact (below_size (qH GE202.out GE218.out)) : w.heap.size ≤ gb222)); have n5_ := Aside0.mk ((by rw [hg]; exact (below_size (qH GE202.out GE218.out)) : w.heap.size ≤ gb222)); have n6_ := Aside0.mk ((by rw [hg]; exact Nat.ne_of_lt (blk_lt (g := gb202) (qK BK202.out)) : gb202 ≠ gb222)); have n7_ := Aside0.mk ((by rw [hg]; exact Nat.ne_of_gt (blk_lt (g := gb202) (qK BK202.out)) : gb222 ≠ gb202)); have n8_ := Aside0.mk ((by rw [hg]; exact Nat.ne_of_lt (blk_lt (g := gb218) (qK BK218.out)) : gb218 ≠ gb222)); have n9_ := Aside0.mk ((by rw [hg]; exact Nat.ne_of_gt (blk_lt (g := gb218) (qK BK218.out)) : gb222 ≠ gb218)); clear BK202; clear BK218; clear HB; have BK202 := n0_; have BK218 := n1_; have HB := n2_; have BK222 := n3_; have GW222 := n4_; have GE222 := n5_; have NB202_222 := n6_; have NB222_202 := n7_; have NB218_222 := n8_; have NB222_218 := n9_; clear n0_ n1_ n2_ n3_ n4_ n5_ n6_ n7_ n8_ n9_; clear hb hbox hg; have hnb121 := NB222_202.out; have hnc121 := NB202_222.out; have hnb122 := NB222_218.out; have hnc122 := NB218_222.out; have hcz123_0 : w120.cell? ⟨gb222, 0, none⟩ = some (.string (⟨#[]⟩ : ByteArray)) := (blk_cell BK222.out 0).trans rfl; have hcz123_1 : w120.cell? ⟨gb222, 1, none⟩ = some (.string (⟨#[]⟩ : ByteArray)) := (blk_cell BK222.out 1).trans rfl; have hfz123_0 := blk_frozen BK222.out 0; have hfz123_1 := blk_frozen BK222.out 1; have hcz124_0 : w120.cell? ⟨gb218, 0, none⟩ = some (.string ((rd_T75 l0_5 x139_5).f0)) := (blk_cell BK218.out 0).trans rfl; have hcz124_1 : w120.cell? ⟨gb218, 1, none⟩ = some (.string ((rd_T75 l0_5 x139_5).f1)) := (blk_cell BK218.out 1).trans rfl; have hfz124_0 := blk_frozen BK218.out 0; have hfz124_1 := blk_frozen BK218.out 1)); try go_wp2_with (first | ((with_reducible refine gate_dst (N := 11) rfl ?_); (try (refine gate_guard (by rfl) ?_; dsimp only)); refine box_event ?hg (N := 11) ?hd (cs := #[.string (⟨#[]⟩ : ByteArray), .string (⟨#[]⟩ : ByteArray)]) (t := 75) ?hr ?_; (case hd => rfl); (case hg => rfl); (case hr => first | (go_simp; done) | (go_simp; rfl)); intro gb222 hg w120 hbox hb; have n0_ := Aside0.mk (blk_below (g := gb202) (qK BK202.out) hb); have n1_ := Aside0.mk (blk_below (g := gb218) (qK BK218.out) hb); have n2_ := Aside0.mk (below_step (qH GE202.out GE218.out) hb); have n3_ := Aside0.mk (hbox); have n4_ := Aside0.mk ((by rw [hg]; exact (below_size (qH GE202.out GE218.out)) : w.heap.size ≤ gb222)); have n5_ := Aside0.mk ((by rw [hg]; exact (below_size (qH GE202.out GE218.out)) : w.heap.size ≤ gb222)); have n6_ := Aside0.mk ((by rw [hg]; exact Nat.ne_of_lt (blk_lt (g := gb202) (qK BK202.out)) : gb202 ≠ gb222)); have n7_ := Aside0.mk ((by rw [hg]; exact Nat.ne_of_gt (blk_lt (g := gb202) (qK BK202.out)) : gb222 ≠ gb202)); have n8_ := Aside0.mk ((by rw [hg]; exact Nat.ne_of_lt (blk_lt (g := gb218) (qK BK218.out)) : gb218 ≠ gb222)); have n9_ := Aside0.mk ((by rw [hg]; exact Nat.ne_of_gt (blk_lt (g := gb218) (qK BK218.out)) : gb222 ≠ gb218)); clear BK202; clear BK218; clear HB; have BK202 := n0_; have BK218 := n1_; have HB := n2_; have BK222 := n3_; have GW222 := n4_; have GE222 := n5_; have NB202_222 := n6_; have NB222_202 := n7_; have NB218_222 := n8_; have NB222_218 := n9_; clear n0_ n1_ n2_ n3_ n4_ n5_ n6_ n7_ n8_ n9_; clear hb hbox hg; have hnb121 := NB222_202.out; have hnc121 := NB202_222.out; have hnb122 := NB222_218.out; have hnc122 := NB218_222.out; have hcz123_0 : w120.cell? ⟨gb222, 0, none⟩ = some (.string (⟨#[]⟩ : ByteArray)) := (blk_cell BK222.out 0).trans rfl; have hcz123_1 : w120.cell? ⟨gb222, 1, none⟩ = some (.string (⟨#[]⟩ : ByteArray)) := (blk_cell BK222.out 1).trans rfl; have hfz123_0 := blk_frozen BK222.out 0; have hfz123_1 := blk_frozen BK222.out 1; have hcz124_0 : w120.cell? ⟨gb218, 0, none⟩ = some (.string ((rd_T75 l0_5 x139_5).f0)) := (blk_cell BK218.out 0).trans rfl; have hcz124_1 : w120.cell? ⟨gb218, 1, none⟩ = some (.string ((rd_T75 l0_5 x139_5).f1)) := (blk_cell BK218.out 1).trans rfl; have hfz124_0 := blk_frozen BK218.out 0; have hfz124_1 := blk_frozen BK218.out 1)))
                         go_roundg kj77
                         case measure => have := HJ1.out; have := HK2.out; have := HJ31.out; have := HK4.out; have := HK5.out; have := HJ77.out; omega
                         case rel => exact ⟨(wrap64 (x139_5 + 1)), (by first | rfl | (simp; done) | (simp [*]; done)), H', ⟨by have := HJ1.out; have := HK2.out; have := HJ31.out; have := HK4.out; have := HK5.out; have := HJ77.out; omega⟩, ⟨by (with_reducible repeat (first | refine blk_drewN ?_ _ | refine blk_drew ?_ | refine blk_alloc ?_ _)); refine blk_far ?_ NB202_222.out _; (with_reducible repeat (first | refine blk_drewN ?_ _ | refine blk_drew ?_ | refine blk_alloc ?_ _)); refine blk_far ?_ NB202_222.out _; (with_reducible repeat (first | refine blk_drewN ?_ _ | refine blk_drew ?_ | refine blk_alloc ?_ _)); exact BK202.out⟩, ⟨by repeat (first | (with_reducible first | exact HB.out | apply below_alloc | apply pw_below_drewN | apply below_drew1 | refine below_set ?_ GE202.out | refine below_set ?_ GE218.out | refine below_set ?_ GE222.out) | exact HB.out)⟩⟩
                      ·rw [if_neg c93] at H
                       exact absurd H (by simp)
                     ·rw [if_neg c92] at H
                      exact absurd H (by simp)
                    ·rw [if_neg c90] at H
                     have c90b0 : decide (0 < x139_5) = false := decide_eq_false c90
                     clear c90
                     have H' := Aside0.mk H
                     clear H
                     go_wp2
                     repeat (go_quiet (fail); try go_wp2)
                     go_roundg kj77
                     case measure => have := HJ1.out; have := HK2.out; have := HJ31.out; have := HK4.out; have := HK5.out; have := HJ77.out; omega
                     case rel => exact ⟨(wrap64 (x139_5 + 1)), (by first | rfl | (simp; done) | (simp [*]; done)), H', ⟨by have := HJ1.out; have := HK2.out; have := HJ31.out; have := HK4.out; have := HK5.out; have := HJ77.out; omega⟩, ⟨by (with_reducible repeat (first | refine blk_drewN ?_ _ | refine blk_drew ?_ | refine blk_alloc ?_ _)); exact BK202.out⟩, ⟨by repeat (first | (with_reducible first | exact HB.out | apply below_alloc | apply pw_below_drewN | apply below_drew1 | refine below_set ?_ GE202.out | refine below_set ?_ GE218.out) | exact HB.out)⟩⟩
                ·rw [if_neg c77] at H
                 exact absurd H (by simp)
               ·rw [if_neg c76] at H
                exact absurd H (by simp)
              ·rw [if_neg c75] at H
               have c75b0 : decide (x139_5 < (l0_5.length : Int)) = false := decide_eq_false c75
               clear c75
               have H' := Aside0.mk H
               clear H
               have hcz125_0 : wr.cell? ⟨gb202, 0, none⟩ = some (.string a0_0) := (blk_cell BK202.out 0).trans rfl
               have hcz125_1 : wr.cell? ⟨gb202, 1, none⟩ = some (.string a0_1) := (blk_cell BK202.out 1).trans rfl
               have hcz125_2 : wr.cell? ⟨gb202, 2, none⟩ = some (.slice A0_2 l0_2.length c0_2) := (blk_cell BK202.out 2).trans rfl
               have hcz125_3 : wr.cell? ⟨gb202, 3, none⟩ = some (.string a0_3) := (blk_cell BK202.out 3).trans rfl
               have hcz125_4 : wr.cell? ⟨gb202, 4, none⟩ = some (.slice A0_4 l0_4.length c0_4) := (blk_cell BK202.out 4).trans rfl
               have hcz125_5 : wr.cell? ⟨gb202, 5, none⟩ = some (.slice A0_5 l0_5.length c0_5) := (blk_cell BK202.out 5).trans rfl
               have hcz125_6 : wr.cell? ⟨gb202, 6, none⟩ = some (.slice A0_6 l0_6.length c0_6) := (blk_cell BK202.out 6).trans rfl
               have hfz125_0 := blk_frozen BK202.out 0
               have hfz125_1 := blk_frozen BK202.out 1
               have hfz125_2 := blk_frozen BK202.out 2
               have hfz125_3 := blk_frozen BK202.out 3
               have hfz125_4 := blk_frozen BK202.out 4
               have hfz125_5 := blk_frozen BK202.out 5
               have hfz125_6 := blk_frozen BK202.out 6
               go_wp2
               repeat (go_quiet (fail); try go_wp2)
               go_loopg [185] k5 (fun kq v185 w' => ∃ (x185_6 : Int), v185 = .int .i64 x185_6 ∧ Aside0 (impl_DrvOk.l3 kq l0_6 (l0_6.length : Int) x185_6 = some r) ∧ Aside0 (kq ≤ k5) ∧ Aside0 (w'.heap[gb202]? = some (.cells #[.string a0_0, .string a0_1, (.slice A0_2 l0_2.length c0_2), .string a0_3, (.slice A0_4 l0_4.length c0_4), (.slice A0_5 l0_5.length c0_5), (.slice A0_6 l0_6.length c0_6)] 48 (0, 0))) ∧ Aside0 (Below w.heap.size w w'))
               case atStart => exact ⟨(0), (by first | rfl | (simp; done) | (simp [*]; done)), H', ⟨Nat.le_refl _⟩, ⟨by (with_reducible repeat (first | refine blk_drewN ?_ _ | refine blk_drew ?_ | refine blk_alloc ?_ _)); exact BK202.out⟩, ⟨by repeat (first | (with_reducible first | exact HB.out | apply below_alloc | apply pw_below_drewN | apply below_drew1 | refine below_set ?_ GE202.out) | exact HB.out)⟩⟩
               case round =>
                clear H'
                try clear c1
                try clear c2
                try clear p2
                try clear q2
                try clear hx2
                try clear c3
                try clear c4
                try clear c5
                try clear c6
                try clear p6
                try clear c7
                try clear c8
                try clear c9
                try clear c10
                try clear c11
                try clear c12
                try clear p20
                try clear q20
                try clear hx20
                try clear p21
                try clear q21
                try clear hx21
                try clear p22
                try clear q22
                try clear hx22
                try clear c27
                try clear c27b0
                try clear c28
                try clear c28b0
                try clear c29
                try clear c29b0
                try clear c31
                try clear c34
                try clear c34b0
                try clear c34b1
                try clear c36
                try clear c37
                try clear c37b0
                try clear c37b1
                try clear c38
                try clear c38b0
                try clear c38b1
                try clear c39
                try clear c39b0
                try clear c39b1
                try clear c45
                try clear c45b0
                try clear c46
                try clear c46b0
                try clear c47
                try clear c47b0
                try clear c49
                try clear c51
                try clear c52
                try clear c52b0
                try clear c54
                try clear c54b0
                try clear c55
                try clear c55b0
                try clear c56
                try clear c56b0
                try clear c58
                try clear c62
                try clear p64
                try clear c66
                try clear c69
                try clear c72
                try clear c75
                try clear c75b0
                try clear c76
                try clear c76b0
                try clear c77
                try clear c77b0
                try clear c80
                try clear c83
                try clear c85
                try clear c87
                try clear c89
                try clear c90
                try clear c90b0
                try clear c92
                try clear c92b0
                try clear c93
                try clear c93b0
                try clear c94
                try clear c94b0
                try clear c95
                try clear c98
                try clear c99
                try clear c102
                try clear c102b0
                try clear c102b1
                try clear c103
                try clear c103b0
                try clear c104
                try clear c107
                try clear c108
                try clear c111
                try clear c114
                try clear c115
                try clear c118
                try clear c121
                try clear c122
                try clear hcz100_0
                try clear hcz100_1
                try clear hcz101_0
                try clear hcz101_1
                try clear hcz105_0
                try clear hcz105_1
                try clear hcz105_2
                try clear hcz105_3
                try clear hcz105_4
                try clear hcz105_5
                try clear hcz105_6
                try clear hcz109_0
                try clear hcz109_1
                try clear hcz110_0
                try clear hcz110_1
                try clear hcz112_0
                try clear hcz112_1
                try clear hcz112_2
                try clear hcz112_3
                try clear hcz112_4
                try clear hcz112_5
                try clear hcz112_6
                try clear hcz116_0
                try clear hcz116_1
                try clear hcz117_0
                try clear hcz117_1
                try clear hcz119_0
                try clear hcz119_1
                try clear hcz119_2
                try clear hcz119_3
                try clear hcz119_4
                try clear hcz119_5
                try clear hcz119_6
                try clear hcz11_0
                try clear hcz11_1
                try clear hcz11_2
                try clear hcz11_3
                try clear hcz11_4
                try clear hcz11_5
                try clear hcz11_6
                try clear hcz123_0
                try clear hcz123_1
                try clear hcz124_0
                try clear hcz124_1
                try clear hcz125_0
                try clear hcz125_1
                try clear hcz125_2
                try clear hcz125_3
                try clear hcz125_4
                try clear hcz125_5
                try clear hcz125_6
                try clear hcz15_0
                try clear hcz15_1
                try clear hcz15_2
                try clear hcz15_3
                try clear hcz15_4
                try clear hcz15_5
                try clear hcz15_6
                try clear hcz17_0
                try clear hcz17_1
                try clear hcz17_2
                try clear hcz17_3
                try clear hcz17_4
                try clear hcz17_5
                try clear hcz17_6
                try clear hcz19_0
                try clear hcz19_1
                try clear hcz19_2
                try clear hcz19_3
                try clear hcz19_4
                try clear hcz19_5
                try clear hcz19_6
                try clear hcz21_0
                try clear hcz21_1
                try clear hcz21_2
                try clear hcz21_3
                try clear hcz21_4
                try clear hcz21_5
                try clear hcz21_6
                try clear hcz22_0
                try clear hcz22_1
                try clear hcz22_2
                try clear hcz22_3
                try clear hcz22_4
                try clear hcz22_5
                try clear hcz22_6
                try clear hcz23_0
                try clear hcz23_1
                try clear hcz23_2
                try clear hcz23_3
                try clear hcz23_4
                try clear hcz23_5
                try clear hcz23_6
                try clear hcz24_0
                try clear hcz24_1
                try clear hcz24_2
                try clear hcz24_3
                try clear hcz24_4
                try clear hcz24_5
                try clear hcz24_6
                try clear hcz26_0
                try clear hcz26_1
                try clear hcz26_2
                try clear hcz26_3
                try clear hcz26_4
                try clear hcz26_5
                try clear hcz26_6
                try clear hcz33_0
                try clear hcz33_1
                try clear hcz33_2
                try clear hcz33_3
                try clear hcz33_4
                try clear hcz33_5
                try clear hcz33_6
                try clear hcz40_0
                try clear hcz40_1
                try clear hcz40_2
                try clear hcz40_3
                try clear hcz40_4
                try clear hcz40_5
                try clear hcz40_6
                try clear hcz41_0
                try clear hcz41_1
                try clear hcz41_2
                try clear hcz41_3
                try clear hcz41_4
                try clear hcz41_5
                try clear hcz41_6
                try clear hcz42_0
                try clear hcz42_1
                try clear hcz42_2
                try clear hcz42_3
                try clear hcz42_4
                try clear hcz42_5
                try clear hcz42_6
                try clear hcz43_0
                try clear hcz43_1
                try clear hcz43_2
                try clear hcz43_3
                try clear hcz43_4
                try clear hcz43_5
                try clear hcz43_6
                try clear hcz44_0
                try clear hcz44_1
                try clear hcz44_2
                try clear hcz44_3
                try clear hcz44_4
                try clear hcz44_5
                try clear hcz44_6
                try clear hcz59_0
                try clear hcz59_1
                try clear hcz60_0
                try clear hcz60_1
                try clear hcz60_2
                try clear hcz60_3
                try clear hcz60_4
                try clear hcz60_5
                try clear hcz60_6
                try clear hcz63_0
                try clear hcz63_1
                try clear hcz64_0
                try clear hcz64_1
                try clear hcz64_2
                try clear hcz64_3
                try clear hcz64_4
                try clear hcz64_5
                try clear hcz64_6
                try clear hcz67_0
                try clear hcz67_1
                try clear hcz70_0
                try clear hcz70_1
                try clear hcz73_0
                try clear hcz73_1
                try clear hcz74_0
                try clear hcz74_1
                try clear hcz74_2
                try clear hcz74_3
                try clear hcz74_4
                try clear hcz74_5
                try clear hcz74_6
                try clear hcz81_0
                try clear hcz81_1
                try clear hcz86_0
                try clear hcz86_1
                try clear hcz88_0
                try clear hcz88_1
                try clear hcz96_0
                try clear hcz96_1
                try clear hcz96_2
                try clear hcz96_3
                try clear hcz96_4
                try clear hcz96_5
                try clear hcz96_6
                try clear hcz9_0
                try clear hcz9_1
                try clear hcz9_2
                try clear hcz9_3
                try clear hcz9_4
                try clear hcz9_5
                try clear hcz9_6
                try clear hfz100_0
                try clear hfz100_1
                try clear hfz101_0
                try clear hfz101_1
                try clear hfz105_0
                try clear hfz105_1
                try clear hfz105_2
                try clear hfz105_3
                try clear hfz105_4
                try clear hfz105_5
                try clear hfz105_6
                try clear hfz109_0
                try clear hfz109_1
                try clear hfz110_0
                try clear hfz110_1
                try clear hfz112_0
                try clear hfz112_1
                try clear hfz112_2
                try clear hfz112_3
                try clear hfz112_4
                try clear hfz112_5
                try clear hfz112_6
                try clear hfz116_0
                try clear hfz116_1
                try clear hfz117_0
                try clear hfz117_1
                try clear hfz119_0
                try clear hfz119_1
                try clear hfz119_2
                try clear hfz119_3
                try clear hfz119_4
                try clear hfz119_5
                try clear hfz119_6
                try clear hfz11_0
                try clear hfz11_1
                try clear hfz11_2
                try clear hfz11_3
                try clear hfz11_4
                try clear hfz11_5
                try clear hfz11_6
                try clear hfz123_0
                try clear hfz123_1
                try clear hfz124_0
                try clear hfz124_1
                try clear hfz125_0
                try clear hfz125_1
                try clear hfz125_2
                try clear hfz125_3
                try clear hfz125_4
                try clear hfz125_5
                try clear hfz125_6
                try clear hfz15_0
                try clear hfz15_1
                try clear hfz15_2
                try clear hfz15_3
                try clear hfz15_4
                try clear hfz15_5
                try clear hfz15_6
                try clear hfz17_0
                try clear hfz17_1
                try clear hfz17_2
                try clear hfz17_3
                try clear hfz17_4
                try clear hfz17_5
                try clear hfz17_6
                try clear hfz19_0
                try clear hfz19_1
                try clear hfz19_2
                try clear hfz19_3
                try clear hfz19_4
                try clear hfz19_5
                try clear hfz19_6
                try clear hfz21_0
                try clear hfz21_1
                try clear hfz21_2
                try clear hfz21_3
                try clear hfz21_4
                try clear hfz21_5
                try clear hfz21_6
                try clear hfz22_0
                try clear hfz22_1
                try clear hfz22_2
                try clear hfz22_3
                try clear hfz22_4
                try clear hfz22_5
                try clear hfz22_6
                try clear hfz23_0
                try clear hfz23_1
                try clear hfz23_2
                try clear hfz23_3
                try clear hfz23_4
                try clear hfz23_5
                try clear hfz23_6
                try clear hfz24_0
                try clear hfz24_1
                try clear hfz24_2
                try clear hfz24_3
                try clear hfz24_4
                try clear hfz24_5
                try clear hfz24_6
                try clear hfz26_0
                try clear hfz26_1
                try clear hfz26_2
                try clear hfz26_3
                try clear hfz26_4
                try clear hfz26_5
                try clear hfz26_6
                try clear hfz33_0
                try clear hfz33_1
                try clear hfz33_2
                try clear hfz33_3
                try clear hfz33_4
                try clear hfz33_5
                try clear hfz33_6
                try clear hfz40_0
                try clear hfz40_1
                try clear hfz40_2
                try clear hfz40_3
                try clear hfz40_4
                try clear hfz40_5
                try clear hfz40_6
                try clear hfz41_0
                try clear hfz41_1
                try clear hfz41_2
                try clear hfz41_3
                try clear hfz41_4
                try clear hfz41_5
                try clear hfz41_6
                try clear hfz42_0
                try clear hfz42_1
                try clear hfz42_2
                try clear hfz42_3
                try clear hfz42_4
                try clear hfz42_5
                try clear hfz42_6
                try clear hfz43_0
                try clear hfz43_1
                try clear hfz43_2
                try clear hfz43_3
                try clear hfz43_4
                try clear hfz43_5
                try clear hfz43_6
                try clear hfz44_0
                try clear hfz44_1
                try clear hfz44_2
                try clear hfz44_3
                try clear hfz44_4
                try clear hfz44_5
                try clear hfz44_6
                try clear hfz59_0
                try clear hfz59_1
                try clear hfz60_0
                try clear hfz60_1
                try clear hfz60_2
                try clear hfz60_3
                try clear hfz60_4
                try clear hfz60_5
                try clear hfz60_6
                try clear hfz63_0
                try clear hfz63_1
                try clear hfz64_0
                try clear hfz64_1
                try clear hfz64_2
                try clear hfz64_3
                try clear hfz64_4
                try clear hfz64_5
                try clear hfz64_6
                try clear hfz67_0
                try clear hfz67_1
                try clear hfz70_0
                try clear hfz70_1
                try clear hfz73_0
                try clear hfz73_1
                try clear hfz74_0
                try clear hfz74_1
                try clear hfz74_2
                try clear hfz74_3
                try clear hfz74_4
                try clear hfz74_5
                try clear hfz74_6
                try clear hfz81_0
                try clear hfz81_1
                try clear hfz86_0
                try clear hfz86_1
                try clear hfz88_0
                try clear hfz88_1
                try clear hfz96_0
                try clear hfz96_1
                try clear hfz96_2
                try clear hfz96_3
                try clear hfz96_4
                try clear hfz96_5
                try clear hfz96_6
                try clear hfz9_0
                try clear hfz9_1
                try clear hfz9_2
                try clear hfz9_3
                try clear hfz9_4
                try clear hfz9_5
                try clear hfz9_6
                try clear hx207_0
                try clear hx211_0
                try clear hx212_0
                try clear hx212_1
                try clear hx216_0
                try clear hx216_1
                try clear hx217_0
                try clear hx217_1
                try clear hx221_0
                try clear hx221_1
                try clear p2
                try clear p20
                try clear p207
                try clear p21
                try clear p211
                try clear p212
                try clear p216
                try clear p217
                try clear p221
                try clear p6
                try clear p64
                try clear q2
                try clear q20
                try clear q207
                try clear q21
                try clear q211
                try clear q212
                try clear q216
                try clear q217
                try clear q221
                obtain ⟨x185_6, rfl, HA, HK6, BK202, HB⟩ := hrel
                cases gk with
                | zero => exact absurd HA.out (by simp [impl_DrvOk.l3])
                | succ k6 =>
                 have H := HA.out
                 clear HA
                 simp only [impl_DrvOk.l3] at H
                 by_cases c126 : x185_6 < (l0_6.length : Int)
                 ·rw [if_pos c126] at H
                  have c126b0 : decide (x185_6 < (l0_6.length : Int)) = true := decide_eq_true c126
                  clear c126
                  by_cases c127 : 0 ≤ x185_6
                  ·rw [if_pos c127] at H
                   have c127b0 : decide (0 ≤ x185_6) = true := decide_eq_true c127
                   clear c127
                   by_cases c128 : x185_6 < (l0_6.length : Int)
                   ·rw [if_pos c128] at H
                    have c128b0 : decide (x185_6 < (l0_6.length : Int)) = true := decide_eq_true c128
                    clear c128
                    replace H := Option.bind_eq_some_iff.mp H
                    obtain ⟨t224, A1290, H⟩ := H
                    replace H : (if t224 = true then (impl_DrvOk.l3 k6 l0_6 (l0_6.length : Int) (wrap64 (x185_6 + 1))) else (some false)) = some r := H
                    have A129 := Aside0.mk A1290
                    clear A1290
                    by_cases c130 : t224 = true
                    ·subst c130
                     have H1 : (impl_DrvOk.l3 k6 l0_6 (l0_6.length : Int) (wrap64 (x185_6 + 1))) = some r := by rw [if_pos rfl] at H; exact H
                     clear H
                     have H := H1
                     clear H1
                     have H' := Aside0.mk H
                     clear H
                     have p223 : 0 ≤ (x185_6 : Int) := of_decide_eq_true (by first | (with_reducible assumption) | assumption)
                     have q223 : x185_6 < (l0_6.length : Int) := of_decide_eq_true (by first | (with_reducible assumption) | assumption)
                     obtain ⟨ad223, e223, hx223_0⟩ := Kd.at_string HR0_6.out x185_6 p223 q223
                     cases e223
                     try (replace hx223_0 := (HB.out.cell (World.block_lt_of_cell? w _ hx223_0)).trans hx223_0)
                     replace p223 := eq_true p223
                     replace q223 := eq_true q223
                     go_wp2_with (first | (go_at_call 9; (with_reducible refine (impl_AddressOk.calls k6 (rdOf ByteArray.empty l0_6 x185_6) true _ A129.out).mono ?_); rintro e w' ⟨rfl, ⟨nd, rfl⟩⟩; (try exact qD)))
                     repeat (go_quiet (first | (go_at_call 9; (with_reducible refine (impl_AddressOk.calls k6 (rdOf ByteArray.empty l0_6 x185_6) true _ A129.out).mono ?_); rintro e w' ⟨rfl, ⟨nd, rfl⟩⟩; (try exact qD))); try go_wp2_with (first | (go_at_call 9; (with_reducible refine (impl_AddressOk.calls k6 (rdOf ByteArray.empty l0_6 x185_6) true _ A129.out).mono ?_); rintro e w' ⟨rfl, ⟨nd, rfl⟩⟩; (try exact qD))))
                     go_roundg k6
                     case measure => have := HJ1.out; have := HK2.out; have := HJ31.out; have := HK4.out; have := HK5.out; have := HK6.out; omega
                     case rel => exact ⟨(wrap64 (x185_6 + 1)), (by first | rfl | (simp; done) | (simp [*]; done)), H', ⟨by have := HJ1.out; have := HK2.out; have := HJ31.out; have := HK4.out; have := HK5.out; have := HK6.out; omega⟩, ⟨by (with_reducible repeat (first | refine blk_drewN ?_ _ | refine blk_drew ?_ | refine blk_alloc ?_ _)); exact BK202.out⟩, ⟨by repeat (first | (with_reducible first | exact HB.out | apply below_alloc | apply pw_below_drewN | apply below_drew1 | refine below_set ?_ GE202.out) | exact HB.out)⟩⟩
                    ·replace c130 := Bool.eq_false_iff.mpr c130
                     subst c130
                     have H1 : (some false) = some r := by rw [if_neg (show ¬ (false = true) by decide)] at H; exact H
                     clear H
                     have H := H1
                     clear H1
                     obtain rfl := Option.some.inj H
                     have p223 : 0 ≤ (x185_6 : Int) := of_decide_eq_true (by first | (with_reducible assumption) | assumption)
                     have q223 : x185_6 < (l0_6.length : Int) := of_decide_eq_true (by first | (with_reducible assumption) | assumption)
                     obtain ⟨ad223, e223, hx223_0⟩ := Kd.at_string HR0_6.out x185_6 p223 q223
                     cases e223
                     try (replace hx223_0 := (HB.out.cell (World.block_lt_of_cell? w _ hx223_0)).trans hx223_0)
                     replace p223 := eq_true p223
                     replace q223 := eq_true q223
                     go_wp2_with (first | (go_at_call 9; (with_reducible refine (impl_AddressOk.calls k6 (rdOf ByteArray.empty l0_6 x185_6) false _ A129.out).mono ?_); rintro e w' ⟨rfl, ⟨nd, rfl⟩⟩; (try exact qD)))
                     repeat (go_quiet (first | (go_at_call 9; (with_reducible refine (impl_AddressOk.calls k6 (rdOf ByteArray.empty l0_6 x185_6) false _ A129.out).mono ?_); rintro e w' ⟨rfl, ⟨nd, rfl⟩⟩; (try exact qD))); try go_wp2_with (first | (go_at_call 9; (with_reducible refine (impl_AddressOk.calls k6 (rdOf ByteArray.empty l0_6 x185_6) false _ A129.out).mono ?_); rintro e w' ⟨rfl, ⟨nd, rfl⟩⟩; (try exact qD))))
                     go_ret
                     exact ⟨by first | rfl | (simp [errW_none, errW_some] <;> rfl) | (simp [*, errW_none, errW_some] <;> rfl), by repeat (first | (with_reducible first | exact HB.out | apply below_alloc | apply pw_below_drewN | apply below_drew1 | refine below_set ?_ GE202.out) | exact HB.out)⟩
                   ·rw [if_neg c128] at H
                    exact absurd H (by simp)
                  ·rw [if_neg c127] at H
                   exact absurd H (by simp)
                 ·rw [if_neg c126] at H
                  have c126b0 : decide (x185_6 < (l0_6.length : Int)) = false := decide_eq_false c126
                  clear c126
                  obtain rfl := Option.some.inj H
                  go_wp2
                  repeat (go_quiet (fail); try go_wp2)
                  go_ret
                  exact ⟨by first | rfl | (simp [errW_none, errW_some] <;> rfl) | (simp [*, errW_none, errW_some] <;> rfl), by repeat (first | (with_reducible first | exact HB.out | apply below_alloc | apply pw_below_drewN | apply below_drew1 | refine below_set ?_ GE202.out) | exact HB.out)⟩

end Go.Proofs.Ytklinldidfdnjaa.PFnExactDrvOk
