-- Laid by a program of this session: a turned copy of the kit's print, with contracts by hand beside.
import Derived.Test.YtbgnjnlecpdfaaaPFnExactSwitchx0
import Derived.Test.YtbgnjnlecpdfaaaPFnExactSwitchx4
import Derived.Test.YtbgnjnlecpdfaaaPFnExactSwitchx5
namespace Go.Proofs.Ytbgnjnlecpdfaaa.PFnExactSwitch
open Go.RowKit Go.Proofs.YtbgnjnlecpdfaaaW.PrintWords Go.Proofs.YtbgnjnlecpdfaaaW.PrintLast Go.Proofs.YtbgnjnlecpdfaaaW.PrintMore
attribute [local go_sem] max2_int min2_int max_two min_two max_three min_three max_four min_four   -- for this text's walks alone
set_option linter.unusedVariables false
set_option linter.unusedSimpArgs false

/-! ### spec_ProfilesOk: function 10 -/
mutual
def spec_ProfilesOk.l0 : Nat → List (S52) → Int → Option (Bool)
 | 0, _, _ => none
 | k + 1, x0, x3 => if x3 < (x0.length : Int) then (if 0 ≤ x3 then ((spec_NameOk.f k ((rd_T52 x0 x3).f0)).bind fun t169 => (if t169 = true then (if x3 > 0 then (if 0 ≤ (wrap64 (x3 - 1)) then (if (wrap64 (x3 - 1)) < (x0.length : Int) then (if ((Op.bytesLess (((rd_T52 x0 (wrap64 (x3 - 1))).f0).toList) (((rd_T52 x0 x3).f0).toList)) = true) then (if (((rd_T52 x0 x3).f2).length : Int) > 50 then (spec_ProfilesOk.j1 k x0 x3 true ((rd_T52 x0 x3).f0) ((rd_T52 x0 x3).f1) ((rd_T52 x0 x3).f2)) else (if ((rd_T52 x0 x3).f1) = 0 then (spec_ProfilesOk.j1 k x0 x3 false ((rd_T52 x0 x3).f0) ((rd_T52 x0 x3).f1) ((rd_T52 x0 x3).f2)) else ((spec_l13Gen.f k ((rd_T52 x0 x3).f0) ((rd_T52 x0 x3).f1) ((rd_T52 x0 x3).f2) ((rd_T52 x0 x3).f1)).bind fun t171 => (spec_ProfilesOk.j1 k x0 x3 (decide (t171 < 0)) ((rd_T52 x0 x3).f0) ((rd_T52 x0 x3).f1) ((rd_T52 x0 x3).f2))))) else (spec_ProfilesOk.j1 k x0 x3 true ((rd_T52 x0 x3).f0) ((rd_T52 x0 x3).f1) ((rd_T52 x0 x3).f2))) else (none)) else (none)) else (if (((rd_T52 x0 x3).f2).length : Int) > 50 then (spec_ProfilesOk.j1 k x0 x3 true ((rd_T52 x0 x3).f0) ((rd_T52 x0 x3).f1) ((rd_T52 x0 x3).f2)) else (if ((rd_T52 x0 x3).f1) = 0 then (spec_ProfilesOk.j1 k x0 x3 false ((rd_T52 x0 x3).f0) ((rd_T52 x0 x3).f1) ((rd_T52 x0 x3).f2)) else ((spec_l13Gen.f k ((rd_T52 x0 x3).f0) ((rd_T52 x0 x3).f1) ((rd_T52 x0 x3).f2) ((rd_T52 x0 x3).f1)).bind fun t172 => (spec_ProfilesOk.j1 k x0 x3 (decide (t172 < 0)) ((rd_T52 x0 x3).f0) ((rd_T52 x0 x3).f1) ((rd_T52 x0 x3).f2)))))) else (spec_ProfilesOk.j1 k x0 x3 true ((rd_T52 x0 x3).f0) ((rd_T52 x0 x3).f1) ((rd_T52 x0 x3).f2)))) else (none)) else (some true)
def spec_ProfilesOk.j1 : Nat → List (S52) → Int → Bool → ByteArray → Int → List (S56) → Option (Bool)
 | 0, _, _, _, _, _, _ => none
 | k + 1, x0, x3, x56, x169000, x169001, x169002 => if x56 = true then (some false) else (spec_ProfilesOk.l1 k x0 x3 0 x169000 x169001 x169002)
def spec_ProfilesOk.l1 : Nat → List (S52) → Int → Int → ByteArray → Int → List (S56) → Option (Bool)
 | 0, _, _, _, _, _, _ => none
 | k + 1, x0, x3, x5, x169000, x169001, x169002 => if x5 < (x169002.length : Int) then (if 0 ≤ x5 then (if ((rd_T56 x169002 x5).f0) < 1 then (some false) else (if ((rd_T56 x169002 x5).f0) > 9007199254740992 then (some false) else (if x5 > 0 then (if 0 ≤ (wrap64 (x5 - 1)) then (if (wrap64 (x5 - 1)) < (x169002.length : Int) then (if ((rd_T56 x169002 (wrap64 (x5 - 1))).f0) ≥ ((rd_T56 x169002 x5).f0) then (some false) else ((spec_AddressOk.f k ((rd_T56 x169002 x5).f1)).bind fun t176 => (if t176 = true then (spec_ProfilesOk.l1 k x0 x3 (wrap64 (x5 + 1)) x169000 x169001 x169002) else (some false)))) else (none)) else (none)) else ((spec_AddressOk.f k ((rd_T56 x169002 x5).f1)).bind fun t177 => (if t177 = true then (spec_ProfilesOk.l1 k x0 x3 (wrap64 (x5 + 1)) x169000 x169001 x169002) else (some false)))))) else (none)) else (spec_ProfilesOk.l0 k x0 (wrap64 (x3 + 1)))
end
def spec_ProfilesOk.f (k : Nat) (l0 : List (S52)) : Option (Bool) := if (l0.length : Int) > 20 then (some false) else (spec_ProfilesOk.l0 k l0 0)
theorem spec_ProfilesOk.mono_l : ∀ k, (∀ y0 y1, LeO (spec_ProfilesOk.l0 k y0 y1) (spec_ProfilesOk.l0 (k + 1) y0 y1)) ∧ (∀ y0 y1 y2 y3 y4 y5, LeO (spec_ProfilesOk.j1 k y0 y1 y2 y3 y4 y5) (spec_ProfilesOk.j1 (k + 1) y0 y1 y2 y3 y4 y5)) ∧ (∀ y0 y1 y2 y3 y4 y5, LeO (spec_ProfilesOk.l1 k y0 y1 y2 y3 y4 y5) (spec_ProfilesOk.l1 (k + 1) y0 y1 y2 y3 y4 y5))
 | 0 => ⟨fun _ _ r h => by simp [spec_ProfilesOk.l0] at h, fun _ _ _ _ _ _ r h => by simp [spec_ProfilesOk.j1] at h, fun _ _ _ _ _ _ r h => by simp [spec_ProfilesOk.l1] at h⟩
 | k + 1 => by
  obtain ⟨ih0, ih1, ih2⟩ := spec_ProfilesOk.mono_l k
  refine ⟨?_, ?_, ?_⟩
  ·intro y0 y1
   unfold spec_ProfilesOk.l0
   repeat' first
   | (with_reducible exact ih0 _ _)
   | (with_reducible exact ih1 _ _ _ _ _ _)
   | (with_reducible exact ih2 _ _ _ _ _ _)
   | (with_reducible exact spec_AddressOk.mono _ _)
   | (with_reducible exact spec_NameOk.mono _ _)
   | (with_reducible exact spec_l13Gen.mono _ _ _ _ _)
   | (with_reducible exact LeO.refl _)
   | (with_reducible exact LeO.none _)
   | (with_reducible refine LeO.ite ?_ ?_)
   | (with_reducible refine LeO.bind ?_ (fun _ => ?_))
   | exact ih0 _ _
   | exact ih1 _ _ _ _ _ _
   | exact ih2 _ _ _ _ _ _
   | exact spec_AddressOk.mono _ _
   | exact spec_NameOk.mono _ _
   | exact spec_l13Gen.mono _ _ _ _ _
   | exact LeO.none _
   | refine LeO.ite ?_ ?_
   | refine LeO.bind ?_ (fun _ => ?_)
  ·intro y0 y1 y2 y3 y4 y5
   unfold spec_ProfilesOk.j1
   repeat' first
   | (with_reducible exact ih0 _ _)
   | (with_reducible exact ih1 _ _ _ _ _ _)
   | (with_reducible exact ih2 _ _ _ _ _ _)
   | (with_reducible exact spec_AddressOk.mono _ _)
   | (with_reducible exact spec_NameOk.mono _ _)
   | (with_reducible exact spec_l13Gen.mono _ _ _ _ _)
   | (with_reducible exact LeO.refl _)
   | (with_reducible exact LeO.none _)
   | (with_reducible refine LeO.ite ?_ ?_)
   | (with_reducible refine LeO.bind ?_ (fun _ => ?_))
   | exact ih0 _ _
   | exact ih1 _ _ _ _ _ _
   | exact ih2 _ _ _ _ _ _
   | exact spec_AddressOk.mono _ _
   | exact spec_NameOk.mono _ _
   | exact spec_l13Gen.mono _ _ _ _ _
   | exact LeO.none _
   | refine LeO.ite ?_ ?_
   | refine LeO.bind ?_ (fun _ => ?_)
  ·intro y0 y1 y2 y3 y4 y5
   unfold spec_ProfilesOk.l1
   repeat' first
   | (with_reducible exact ih0 _ _)
   | (with_reducible exact ih1 _ _ _ _ _ _)
   | (with_reducible exact ih2 _ _ _ _ _ _)
   | (with_reducible exact spec_AddressOk.mono _ _)
   | (with_reducible exact spec_NameOk.mono _ _)
   | (with_reducible exact spec_l13Gen.mono _ _ _ _ _)
   | (with_reducible exact LeO.refl _)
   | (with_reducible exact LeO.none _)
   | (with_reducible refine LeO.ite ?_ ?_)
   | (with_reducible refine LeO.bind ?_ (fun _ => ?_))
   | exact ih0 _ _
   | exact ih1 _ _ _ _ _ _
   | exact ih2 _ _ _ _ _ _
   | exact spec_AddressOk.mono _ _
   | exact spec_NameOk.mono _ _
   | exact spec_l13Gen.mono _ _ _ _ _
   | exact LeO.none _
   | refine LeO.ite ?_ ?_
   | refine LeO.bind ?_ (fun _ => ?_)
theorem spec_ProfilesOk.mono : ∀ a0 k, LeO (spec_ProfilesOk.f k a0) (spec_ProfilesOk.f (k + 1) a0) := by
 intro a0 k
 obtain ⟨ih0, ih1, ih2⟩ := spec_ProfilesOk.mono_l k
 unfold spec_ProfilesOk.f
 repeat' first
   | (with_reducible exact ih0 _ _)
   | (with_reducible exact ih1 _ _ _ _ _ _)
   | (with_reducible exact ih2 _ _ _ _ _ _)
   | (with_reducible exact spec_AddressOk.mono _ _)
   | (with_reducible exact spec_NameOk.mono _ _)
   | (with_reducible exact spec_l13Gen.mono _ _ _ _ _)
   | (with_reducible exact LeO.refl _)
   | (with_reducible exact LeO.none _)
   | (with_reducible refine LeO.ite ?_ ?_)
   | (with_reducible refine LeO.bind ?_ (fun _ => ?_))
   | exact ih0 _ _
   | exact ih1 _ _ _ _ _ _
   | exact ih2 _ _ _ _ _ _
   | exact spec_AddressOk.mono _ _
   | exact spec_NameOk.mono _ _
   | exact spec_l13Gen.mono _ _ _ _ _
   | exact LeO.none _
   | refine LeO.ite ?_ ?_
   | refine LeO.bind ?_ (fun _ => ?_)
def spec_ProfilesOk.T7 : Bool × List (List Nat × List Nat) := (true, [([], []), ([0], [0]), ([1], [1]), ([2], [2]), ([3, 2], [3]), ([4], [4]), ([5, 4], [4, 5]), ([6, 4, 4], [4, 6]), ([7], [7]), ([7], [7]), ([9, 7], [7, 9]), ([8, 10, 7], [7, 8, 10]), ([11, 7], [7, 11]), ([12, 7], [7, 12]), ([7], [7]), ([14, 7], [7, 14]), ([13, 15, 7], [7, 13, 15]), ([7, 16, 4], [4, 7, 16]), ([4, 17], [4, 17]), ([18, 7], [18]), ([19], [19]), ([20, 19], [19, 20]), ([21, 19], [19, 21]), ([22, 19], [19, 22]), ([19, 23], [19, 23]), ([24, 19], [24]), ([25], [25]), ([26, 25], [25, 26]), ([27, 25], [25, 27]), ([28, 25, 25], [25, 28]), ([29], [29]), ([29], [29]), ([31, 29], [29, 31]), ([30, 32, 29, 29], [29, 30, 32]), ([33, 29], [29, 33]), ([29, 34, 25], [25, 29, 34]), ([25, 35], [25, 35])])
def spec_ProfilesOk.B7 : List Nat := [0, 1, 3, 7, 15, 31, 63, 127, 255, 255, 767, 2047, 4095, 8191, 255, 16639, 65535, 131071, 262143, 524287, 1048575, 2097151, 4194303, 8388607, 16777215, 33554431, 67108863, 134217727, 268435455, 536870911, 1073741823, 1073741823, 3221225471, 8589934591, 17179869183, 34359738367, 68719476735]
theorem spec_ProfilesOk.tab7 : rtab .any (opsOf Try.f10 7) = spec_ProfilesOk.T7 := by kernel_rfl
theorem spec_ProfilesOk.bits7 : waitsOk spec_ProfilesOk.T7.2 spec_ProfilesOk.B7 = true := by kernel_rfl
def spec_ProfilesOk.T13 : Bool × List (List Nat × List Nat) := (true, [([], []), ([0], [0]), ([1], [1]), ([2], [2]), ([3], [3]), ([4, 3], [3, 4]), ([5, 3], [3, 5]), ([3, 6], [3, 6]), ([7, 3], [7]), ([8], [8]), ([9, 8], [8, 9]), ([10, 8, 8], [8, 10]), ([11], [11]), ([12, 11], [11, 12]), ([11], [11]), ([14, 11], [11, 14]), ([13, 15, 11], [11, 13, 15]), ([16, 11], [11, 16]), ([17, 11], [11, 17]), ([11], [11]), ([19, 11], [11, 19]), ([18, 20, 11], [11, 18, 20]), ([11, 21, 8], [8, 11, 21]), ([8, 22], [8, 22]), ([23, 11], [23]), ([24], [24]), ([25, 24], [24, 25]), ([26, 24, 24], [24, 26]), ([27, 24], [24, 27]), ([24, 28], [24, 28])])
def spec_ProfilesOk.B13 : List Nat := [0, 1, 3, 7, 15, 31, 63, 127, 255, 511, 1023, 2047, 4095, 8191, 4095, 20479, 65535, 131071, 262143, 4095, 528383, 2097151, 4194303, 8388607, 16777215, 33554431, 67108863, 134217727, 268435455, 536870911]
theorem spec_ProfilesOk.tab13 : rtab .any (opsOf Try.f10 13) = spec_ProfilesOk.T13 := by kernel_rfl
theorem spec_ProfilesOk.bits13 : waitsOk spec_ProfilesOk.T13.2 spec_ProfilesOk.B13 = true := by kernel_rfl
set_option maxHeartbeats 8000000 in
set_option maxRecDepth 100000 in
theorem spec_ProfilesOk.calls (k : Nat) (A0 : Option Addr) (c0 : Nat) (l0 : List (S52)) (r : Bool) (w : World) (hr0 : Kd.C k52 w A0 l0.length l0) (hc0 : l0.length ≤ c0) (h : spec_ProfilesOk.f k l0 = some r) :
  Calls Try.prog 10 #[.slice A0 l0.length c0] w fun e w' => e = .returned (.bool r) ∧ Below w.heap.size w w' := by
 have hu52 := Try.underlying52
 have hu56 := Try.underlying56
 have HR0 := Aside0.mk hr0
 have HC0 := Aside0.mk hc0
 clear hr0 hc0
 have HB := Aside0.mk (Below.refl w.heap.size w)
 have H : (if (l0.length : Int) > 20 then (some false) else (spec_ProfilesOk.l0 k l0 0)) = some r := h
 clear h
 by_cases c2 : (l0.length : Int) > 20
 ·rw [if_pos c2] at H
  have c2b0 : decide (20 < (l0.length : Int)) = true := decide_eq_true c2
  have c2b1 : decide (20 < l0.length) = true := decide_eq_true (by omega)
  clear c2
  obtain rfl := Option.some.inj H
  go_enter Try.func10, Try.ntmps10
  go_wp2
  go_ret
  exact ⟨by first | rfl | (simp [errW_none, errW_some] <;> rfl) | (simp [*, errW_none, errW_some] <;> rfl), by repeat (first | (with_reducible first | exact HB.out | apply below_alloc | apply pw_below_drewN | apply below_drew1) | exact HB.out)⟩
 ·rw [if_neg c2] at H
  have c2b0 : decide (20 < (l0.length : Int)) = false := decide_eq_false c2
  have c2b1 : decide (20 < l0.length) = false := decide_eq_false (by omega)
  clear c2
  have H' := Aside0.mk H
  clear H
  go_enter Try.func10, Try.ntmps10
  go_wp2
  go_loopg [3] k (fun kq v3 w' => ∃ (x3_1 : Int), v3 = .int .i64 x3_1 ∧ Aside0 (spec_ProfilesOk.l0 kq l0 x3_1 = some r) ∧ Aside0 (kq ≤ k) ∧ Aside0 (Below w.heap.size w w'))
  case atStart => exact ⟨(0), (by first | rfl | (simp; done) | (simp [*]; done)), H', ⟨Nat.le_refl _⟩, ⟨by repeat (first | (with_reducible first | exact HB.out | apply below_alloc | apply pw_below_drewN | apply below_drew1) | exact HB.out)⟩⟩
  case round =>
   clear H'
   try clear c1
   try clear c2
   try clear c2b0
   try clear c2b1
   try clear p2
   obtain ⟨x3_1, rfl, HA, HK1, HB⟩ := hrel
   cases gk with
   | zero => exact absurd HA.out (by simp [spec_ProfilesOk.l0])
   | succ k1 =>
    have H := HA.out
    clear HA
    simp only [spec_ProfilesOk.l0] at H
    by_cases c3 : x3_1 < (l0.length : Int)
    ·rw [if_pos c3] at H
     have c3b0 : decide (x3_1 < (l0.length : Int)) = true := decide_eq_true c3
     clear c3
     by_cases c4 : 0 ≤ x3_1
     ·rw [if_pos c4] at H
      have c4b0 : decide (0 ≤ x3_1) = true := decide_eq_true c4
      clear c4
      have HC5 := Aside0.mk H
      clear H
      have p167 : 0 ≤ (x3_1 : Int) := of_decide_eq_true (by first | (with_reducible assumption) | assumption)
      have q167 : x3_1 < (l0.length : Int) := of_decide_eq_true (by first | (with_reducible assumption) | assumption)
      obtain ⟨ad167, A167_2, c167_2, e167, hx167_0, hx167_1, hx167_2, hl167_2, hi167_2⟩ := at_T52 HR0.out x3_1 p167 q167
      cases e167
      try (replace hx167_0 := (HB.out.cell (World.block_lt_of_cell? w _ hx167_0)).trans hx167_0)
      try (replace hx167_1 := (HB.out.cell (World.block_lt_of_cell? w _ hx167_1)).trans hx167_1)
      try (replace hx167_2 := (HB.out.cell (World.block_lt_of_cell? w _ hx167_2)).trans hx167_2)
      have HR167_2 := Aside0.mk hi167_2
      have HC167_2 := Aside0.mk hl167_2
      clear hi167_2 hl167_2
      replace p167 := eq_true p167
      replace q167 := eq_true q167
      go_upto_region 7 with (first | ((with_reducible refine gate_dst (N := 4) rfl ?_); (try (refine gate_guard (by rfl) ?_; dsimp only)); refine box_event ?hg (N := 4) ?hd (cs := #[.string (⟨#[]⟩ : ByteArray), .int .i64 0, .slice none 0 0]) (t := 52) ?hr ?_; (case hd => rfl); (case hg => rfl); (case hr => first | (go_simp; done) | (go_simp; rfl)); intro gb168 hg w6 hbox hb; have n0_ := Aside0.mk (below_step qB hb); have n1_ := Aside0.mk (hbox); have n2_ := Aside0.mk ((by rw [hg]; exact (below_size qB) : w.heap.size ≤ gb168)); have n3_ := Aside0.mk ((by rw [hg]; exact (below_size qB) : w.heap.size ≤ gb168)); clear HB; have HB := n0_; have BK168 := n1_; have GW168 := n2_; have GE168 := n3_; clear n0_ n1_ n2_ n3_; clear hb hbox hg; have hcz7_0 : w6.cell? ⟨gb168, 0, none⟩ = some (.string (⟨#[]⟩ : ByteArray)) := (blk_cell BK168.out 0).trans rfl; have hcz7_1 : w6.cell? ⟨gb168, 1, none⟩ = some (.int .i64 0) := (blk_cell BK168.out 1).trans rfl; have hcz7_2 : w6.cell? ⟨gb168, 2, none⟩ = some (.slice none 0 0) := (blk_cell BK168.out 2).trans rfl; have hfz7_0 := blk_frozen BK168.out 0; have hfz7_1 := blk_frozen BK168.out 1; have hfz7_2 := blk_frozen BK168.out 2))
      (try simp only [Act.put, List.setIfInBounds_toArray, List.set_cons_zero, List.set_cons_succ])
      go_cut [56] (fun v56 wc => ∃ (kq : Nat) (x56_4 : Bool), v56 = .bool x56_4 ∧ Aside0 (spec_ProfilesOk.j1 kq l0 x3_1 x56_4 ((rd_T52 l0 x3_1).f0) ((rd_T52 l0 x3_1).f1) ((rd_T52 l0 x3_1).f2) = some r) ∧ Aside0 (kq ≤ k1) ∧ Aside0 (wc.heap[gb168]? = some (.cells #[.string ((rd_T52 l0 x3_1).f0), .int .i64 ((rd_T52 l0 x3_1).f1), (.slice A167_2 ((rd_T52 l0 x3_1).f2).length c167_2)] 52 (0, 0))) ∧ Aside0 (Below w.heap.size w wc))
      case first =>
       have H := HC5.out
       clear HC5
       replace H := Option.bind_eq_some_iff.mp H
       obtain ⟨t169, A80, H⟩ := H
       replace H : (if t169 = true then (if x3_1 > 0 then (if 0 ≤ (wrap64 (x3_1 - 1)) then (if (wrap64 (x3_1 - 1)) < (l0.length : Int) then (if ((Op.bytesLess (((rd_T52 l0 (wrap64 (x3_1 - 1))).f0).toList) (((rd_T52 l0 x3_1).f0).toList)) = true) then (if (((rd_T52 l0 x3_1).f2).length : Int) > 50 then (spec_ProfilesOk.j1 k1 l0 x3_1 true ((rd_T52 l0 x3_1).f0) ((rd_T52 l0 x3_1).f1) ((rd_T52 l0 x3_1).f2)) else (if ((rd_T52 l0 x3_1).f1) = 0 then (spec_ProfilesOk.j1 k1 l0 x3_1 false ((rd_T52 l0 x3_1).f0) ((rd_T52 l0 x3_1).f1) ((rd_T52 l0 x3_1).f2)) else ((spec_l13Gen.f k1 ((rd_T52 l0 x3_1).f0) ((rd_T52 l0 x3_1).f1) ((rd_T52 l0 x3_1).f2) ((rd_T52 l0 x3_1).f1)).bind fun t171 => (spec_ProfilesOk.j1 k1 l0 x3_1 (decide (t171 < 0)) ((rd_T52 l0 x3_1).f0) ((rd_T52 l0 x3_1).f1) ((rd_T52 l0 x3_1).f2))))) else (spec_ProfilesOk.j1 k1 l0 x3_1 true ((rd_T52 l0 x3_1).f0) ((rd_T52 l0 x3_1).f1) ((rd_T52 l0 x3_1).f2))) else (none)) else (none)) else (if (((rd_T52 l0 x3_1).f2).length : Int) > 50 then (spec_ProfilesOk.j1 k1 l0 x3_1 true ((rd_T52 l0 x3_1).f0) ((rd_T52 l0 x3_1).f1) ((rd_T52 l0 x3_1).f2)) else (if ((rd_T52 l0 x3_1).f1) = 0 then (spec_ProfilesOk.j1 k1 l0 x3_1 false ((rd_T52 l0 x3_1).f0) ((rd_T52 l0 x3_1).f1) ((rd_T52 l0 x3_1).f2)) else ((spec_l13Gen.f k1 ((rd_T52 l0 x3_1).f0) ((rd_T52 l0 x3_1).f1) ((rd_T52 l0 x3_1).f2) ((rd_T52 l0 x3_1).f1)).bind fun t172 => (spec_ProfilesOk.j1 k1 l0 x3_1 (decide (t172 < 0)) ((rd_T52 l0 x3_1).f0) ((rd_T52 l0 x3_1).f1) ((rd_T52 l0 x3_1).f2)))))) else (spec_ProfilesOk.j1 k1 l0 x3_1 true ((rd_T52 l0 x3_1).f0) ((rd_T52 l0 x3_1).f1) ((rd_T52 l0 x3_1).f2))) = some r := H
       have A8 := Aside0.mk A80
       clear A80
       by_cases c9 : t169 = true
       ·subst c9
        have H1 : (if x3_1 > 0 then (if 0 ≤ (wrap64 (x3_1 - 1)) then (if (wrap64 (x3_1 - 1)) < (l0.length : Int) then (if ((Op.bytesLess (((rd_T52 l0 (wrap64 (x3_1 - 1))).f0).toList) (((rd_T52 l0 x3_1).f0).toList)) = true) then (if (((rd_T52 l0 x3_1).f2).length : Int) > 50 then (spec_ProfilesOk.j1 k1 l0 x3_1 true ((rd_T52 l0 x3_1).f0) ((rd_T52 l0 x3_1).f1) ((rd_T52 l0 x3_1).f2)) else (if ((rd_T52 l0 x3_1).f1) = 0 then (spec_ProfilesOk.j1 k1 l0 x3_1 false ((rd_T52 l0 x3_1).f0) ((rd_T52 l0 x3_1).f1) ((rd_T52 l0 x3_1).f2)) else ((spec_l13Gen.f k1 ((rd_T52 l0 x3_1).f0) ((rd_T52 l0 x3_1).f1) ((rd_T52 l0 x3_1).f2) ((rd_T52 l0 x3_1).f1)).bind fun t171 => (spec_ProfilesOk.j1 k1 l0 x3_1 (decide (t171 < 0)) ((rd_T52 l0 x3_1).f0) ((rd_T52 l0 x3_1).f1) ((rd_T52 l0 x3_1).f2))))) else (spec_ProfilesOk.j1 k1 l0 x3_1 true ((rd_T52 l0 x3_1).f0) ((rd_T52 l0 x3_1).f1) ((rd_T52 l0 x3_1).f2))) else (none)) else (none)) else (if (((rd_T52 l0 x3_1).f2).length : Int) > 50 then (spec_ProfilesOk.j1 k1 l0 x3_1 true ((rd_T52 l0 x3_1).f0) ((rd_T52 l0 x3_1).f1) ((rd_T52 l0 x3_1).f2)) else (if ((rd_T52 l0 x3_1).f1) = 0 then (spec_ProfilesOk.j1 k1 l0 x3_1 false ((rd_T52 l0 x3_1).f0) ((rd_T52 l0 x3_1).f1) ((rd_T52 l0 x3_1).f2)) else ((spec_l13Gen.f k1 ((rd_T52 l0 x3_1).f0) ((rd_T52 l0 x3_1).f1) ((rd_T52 l0 x3_1).f2) ((rd_T52 l0 x3_1).f1)).bind fun t172 => (spec_ProfilesOk.j1 k1 l0 x3_1 (decide (t172 < 0)) ((rd_T52 l0 x3_1).f0) ((rd_T52 l0 x3_1).f1) ((rd_T52 l0 x3_1).f2)))))) = some r := by rw [if_pos rfl] at H; exact H
        clear H
        have H := H1
        clear H1
        by_cases c10 : x3_1 > 0
        ·rw [if_pos c10] at H
         have c10b0 : decide (0 < x3_1) = true := decide_eq_true c10
         clear c10
         (first | rw [c10b0] | (simp only [i64_w, i32_w]; rw [c10b0]) | skip)
         obtain ⟨ji11, hji11⟩ : ∃ j_ : Int, (wrap64 (x3_1 - 1)) = j_ := ⟨_, rfl⟩
         replace H : (if 0 ≤ (ji11) then (if (ji11) < (l0.length : Int) then (if ((Op.bytesLess (((rd_T52 l0 (ji11)).f0).toList) (((rd_T52 l0 x3_1).f0).toList)) = true) then (if (((rd_T52 l0 x3_1).f2).length : Int) > 50 then (spec_ProfilesOk.j1 k1 l0 x3_1 true ((rd_T52 l0 x3_1).f0) ((rd_T52 l0 x3_1).f1) ((rd_T52 l0 x3_1).f2)) else (if ((rd_T52 l0 x3_1).f1) = 0 then (spec_ProfilesOk.j1 k1 l0 x3_1 false ((rd_T52 l0 x3_1).f0) ((rd_T52 l0 x3_1).f1) ((rd_T52 l0 x3_1).f2)) else ((spec_l13Gen.f k1 ((rd_T52 l0 x3_1).f0) ((rd_T52 l0 x3_1).f1) ((rd_T52 l0 x3_1).f2) ((rd_T52 l0 x3_1).f1)).bind fun t171 => (spec_ProfilesOk.j1 k1 l0 x3_1 (decide (t171 < 0)) ((rd_T52 l0 x3_1).f0) ((rd_T52 l0 x3_1).f1) ((rd_T52 l0 x3_1).f2))))) else (spec_ProfilesOk.j1 k1 l0 x3_1 true ((rd_T52 l0 x3_1).f0) ((rd_T52 l0 x3_1).f1) ((rd_T52 l0 x3_1).f2))) else (none)) else (none)) = some r := by first | (rw [hji11] at H; exact H) | (simp only [hji11] at H ⊢; exact H)
         (try rw [hji11] at A8)
         have hji11w : (IntKind.i64.wrap (x3_1 - 1)) = ji11 := (i64_w _).trans hji11
         by_cases c12 : 0 ≤ (ji11)
         ·rw [if_pos c12] at H
          have c12b0 : decide (0 ≤ (ji11)) = true := decide_eq_true c12
          clear c12
          by_cases c13 : (ji11) < (l0.length : Int)
          ·rw [if_pos c13] at H
           have c13b0 : decide ((ji11) < (l0.length : Int)) = true := decide_eq_true c13
           clear c13
           by_cases c14 : ((Op.bytesLess (((rd_T52 l0 (ji11)).f0).toList) (((rd_T52 l0 x3_1).f0).toList)) = true)
           ·rw [if_pos c14] at H
            have c14b0 : (Op.bytesLess (((rd_T52 l0 (ji11)).f0).toList) (((rd_T52 l0 x3_1).f0).toList)) = true := c14
            clear c14
            by_cases c15 : (((rd_T52 l0 x3_1).f2).length : Int) > 50
            ·rw [if_pos c15] at H
             have c15b0 : decide (50 < (((rd_T52 l0 x3_1).f2).length : Int)) = true := decide_eq_true c15
             have c15b1 : decide (50 < ((rd_T52 l0 x3_1).f2).length) = true := decide_eq_true (by omega)
             clear c15
             have H' := Aside0.mk H
             clear H
             try go_wp2
             have n0_ : Aside0 ((((w6.setCell ⟨gb168, 0, none⟩ (.string ((rd_T52 l0 x3_1).f0))).setCell ⟨gb168, 1, none⟩ (.int .i64 ((rd_T52 l0 x3_1).f1))).setCell ⟨gb168, 2, none⟩ (.slice A167_2 ((rd_T52 l0 x3_1).f2).length c167_2)).heap[gb168]? = some (.cells #[.string ((rd_T52 l0 x3_1).f0), .int .i64 ((rd_T52 l0 x3_1).f1), .slice A167_2 ((rd_T52 l0 x3_1).f2).length c167_2] 52 (0, 0))) := ⟨by (with_reducible repeat (first | refine blk_drewN ?_ _ | refine blk_drew ?_ | refine blk_alloc ?_ _)); refine blk_put (cs := #[.string ((rd_T52 l0 x3_1).f0), .int .i64 ((rd_T52 l0 x3_1).f1), .slice none 0 0]) ?_ 2 _ rfl; (with_reducible repeat (first | refine blk_drewN ?_ _ | refine blk_drew ?_ | refine blk_alloc ?_ _)); refine blk_put (cs := #[.string ((rd_T52 l0 x3_1).f0), .int .i64 0, .slice none 0 0]) ?_ 1 _ rfl; (with_reducible repeat (first | refine blk_drewN ?_ _ | refine blk_drew ?_ | refine blk_alloc ?_ _)); refine blk_put (cs := #[.string (⟨#[]⟩ : ByteArray), .int .i64 0, .slice none 0 0]) ?_ 0 _ rfl; (with_reducible repeat (first | refine blk_drewN ?_ _ | refine blk_drew ?_ | refine blk_alloc ?_ _)); exact BK168.out⟩
             have n1_ : Aside0 (Below w.heap.size w (((w6.setCell ⟨gb168, 0, none⟩ (.string ((rd_T52 l0 x3_1).f0))).setCell ⟨gb168, 1, none⟩ (.int .i64 ((rd_T52 l0 x3_1).f1))).setCell ⟨gb168, 2, none⟩ (.slice A167_2 ((rd_T52 l0 x3_1).f2).length c167_2))) := ⟨by repeat (first | (with_reducible first | exact HB.out | apply below_alloc | apply pw_below_drewN | apply below_drew1 | refine below_set ?_ GE168.out) | exact HB.out)⟩
             (try clear BK168)
             (try clear HB)
             generalize (((w6.setCell ⟨gb168, 0, none⟩ (.string ((rd_T52 l0 x3_1).f0))).setCell ⟨gb168, 1, none⟩ (.int .i64 ((rd_T52 l0 x3_1).f1))).setCell ⟨gb168, 2, none⟩ (.slice A167_2 ((rd_T52 l0 x3_1).f2).length c167_2)) = w16 at n0_ n1_ ⊢
             have BK168 := n0_
             have HB := n1_
             clear n0_ n1_
             have n0_ := Aside0.mk (blk_drew BK168.out)
             have n1_ := Aside0.mk (below_drew1 HB.out)
             clear BK168
             clear HB
             have BK168 := n0_
             have HB := n1_
             clear n0_ n1_
             have p170 : 0 ≤ ((ji11) : Int) := of_decide_eq_true (by first | (with_reducible assumption) | assumption)
             have q170 : (ji11) < (l0.length : Int) := of_decide_eq_true (by first | (with_reducible assumption) | assumption)
             obtain ⟨ad170, A170_2, c170_2, e170, hx170_0, hx170_1, hx170_2, hl170_2, hi170_2⟩ := at_T52 HR0.out (ji11) p170 q170
             have hw170_2 := hx170_2
             have hw170_1 := hx170_1
             have hw170_0 := hx170_0
             obtain rfl : ad167 = ad170 := (by injection e170)
             try (replace hx170_0 := (HB.out.cell (World.block_lt_of_cell? w _ hx170_0)).trans hx170_0)
             try (replace hx170_1 := (HB.out.cell (World.block_lt_of_cell? w _ hx170_1)).trans hx170_1)
             try (replace hx170_2 := (HB.out.cell (World.block_lt_of_cell? w _ hx170_2)).trans hx170_2)
             have HR170_2 := Aside0.mk hi170_2
             have HC170_2 := Aside0.mk hl170_2
             clear hi170_2 hl170_2
             replace p170 := eq_true p170
             replace q170 := eq_true q170
             refine start_ (n := 37) (S := fun w' => w'.cell? ⟨gb168, 0, none⟩ = some (.string ((rd_T52 l0 x3_1).f0)) ∧ w'.cell? ⟨gb168, 1, none⟩ = some (.int .i64 ((rd_T52 l0 x3_1).f1)) ∧ w'.cell? ⟨gb168, 2, none⟩ = some (.slice A167_2 ((rd_T52 l0 x3_1).f2).length c167_2) ∧ w'.cell? (ad167.add (((ji11)).toNat * 3)) = some (.string ((rd_T52 l0 (ji11)).f0)) ∧ w'.cell? ⟨(ad167.add (((ji11)).toNat * 3)).block, (ad167.add (((ji11)).toNat * 3)).off + 1, none⟩ = some (.int .i64 ((rd_T52 l0 (ji11)).f1)) ∧ w'.cell? ⟨(ad167.add (((ji11)).toNat * 3)).block, (ad167.add (((ji11)).toNat * 3)).off + 2, none⟩ = some (.slice A170_2 ((rd_T52 l0 (ji11)).f2).length c170_2)) (ds := []) (tf 37 0) (by kernel_rfl) rfl rfl ⟨(blk_cell BK168.out 0).trans rfl, (blk_cell BK168.out 1).trans rfl, (blk_cell BK168.out 2).trans rfl, ((HB.out.cell (World.block_lt_of_cell? w _ hw170_0)).trans hw170_0), ((HB.out.cell (World.block_lt_of_cell? w _ hw170_1)).trans hw170_1), ((HB.out.cell (World.block_lt_of_cell? w _ hw170_2)).trans hw170_2)⟩ (fun hHeld => ?_); refine with_tabW spec_ProfilesOk.tab7 spec_ProfilesOk.bits7 (fun HT_ HW_ => ?_)
             generalize w16.drew = w17 at BK168 HB HR170_2 hx170_0 hx170_1 hx170_2 hHeld ⊢
             refine qA 0 20 (tf 37 1) ?_
             refine qT 1 21 (tf 37 3) ?_
             refine one_ (i := 2) (N := some 22) (tf 37 7) rfl rfl (one_of HT_.out (by kernel_rfl)) (by decide) (fun K hK => ?_)
             refine goes_ Try.func30 (by kernel_rfl) rfl #[.string ((rd_T52 l0 x3_1).f0)] (by rfl) rfl rfl (by (try simp only [List.map_toArray, List.map_cons, List.map_nil]); first | done | rfl | (simp only [List.length_drop, List.length_take]; rfl)) ?_
             with_reducible refine (spec_NameOk.calls k1 ((rd_T52 l0 x3_1).f0) true _ A8.out).mono ?_
             rintro e w' ⟨rfl, ⟨nd, rfl⟩⟩
             refine ⟨_, rfl, ?_⟩
             refine hK.out _ _ ⟨(blk_cell BK168.out 0).trans rfl, (blk_cell BK168.out 1).trans rfl, (blk_cell BK168.out 2).trans rfl, ((HB.out.cell (World.block_lt_of_cell? w _ hw170_0)).trans hw170_0), ((HB.out.cell (World.block_lt_of_cell? w _ hw170_1)).trans hw170_1), ((HB.out.cell (World.block_lt_of_cell? w _ hw170_2)).trans hw170_2)⟩ (fun hHeld => ?_)
             clear hK K
             refine norm_ (a' := ?_) ?_ ?_
             rotate_left
             ·show Act.put _ (some 22) _ = _
              simp only [Act.put, sT, s0, sS, i64_w, i32_w]
              rfl
             refine qA 3 23 (tf 37 15) ?_
             refine qA 4 24 (tf 37 31) ?_
             refine qA 5 25 (tf 37 63) ?_
             refine qA 6 26 (tf 37 127) ?_
             refine qA 7 27 (tf 37 255) ?_
             refine qA 8 28 (tf 37 511) ?_
             refine qA 9 29 (tf 37 1023) ?_
             refine qA 10 30 (tf 37 2047) ?_
             refine qA 11 31 (tf 37 4095) ?_
             refine qA 12 32 (tf 37 8191) ?_
             refine qA 14 34 (tf 37 24575) ?_
             refine qT 13 33 (tf 37 32767) ?_
             refine qT 15 35 (tf 37 65535) ?_
             refine qA 16 36 (tf 37 131071) ?_
             refine qA 17 37 (tf 37 262143) ?_
             refine qA 18 38 (tf 37 524287) ?_
             refine qA 19 39 (tf 37 1048575) ?_
             refine qA 20 40 (tf 37 2097151) ?_
             refine qT 21 41 (tf 37 4194303) ?_
             refine qA 22 42 (tf 37 8388607) ?_
             refine qA 23 43 (tf 37 16777215) ?_
             refine qA 24 44 (tf 37 33554431) ?_
             refine qA 25 45 (tf 37 67108863) ?_
             refine qU 26 46 (tf 37 134217727) ?_
             refine qU 27 47 (tf 37 268435455) ?_
             refine qU 28 48 (tf 37 536870911) ?_
             refine qU 29 49 (tf 37 1073741823) ?_
             refine qU 30 50 (tf 37 2147483647) ?_
             refine qU 31 51 (tf 37 4294967295) ?_
             refine qU 32 52 (tf 37 8589934591) ?_
             refine qU 33 53 (tf 37 17179869183) ?_
             refine qU 34 54 (tf 37 34359738367) ?_
             refine qU 35 55 (tf 37 68719476735) ?_
             refine qA 36 56 (tf 37 137438953471) ?_
             refine done_ (done_of HT_.out (by kernel_rfl)) ?_
             try go_wp2
             go_meet
             case rel => exact ⟨_, (true), (by first | rfl | (simp; done) | (simp [*]; done)), H', ⟨by have := HK1.out; first | omega | exact Nat.le_refl _⟩, ⟨by (with_reducible repeat (first | refine blk_drewN ?_ _ | refine blk_drew ?_ | refine blk_alloc ?_ _)); exact BK168.out⟩, ⟨by repeat (first | (with_reducible first | exact HB.out | apply below_alloc | apply pw_below_drewN | apply below_drew1 | refine below_set ?_ GE168.out) | exact HB.out)⟩⟩
            ·rw [if_neg c15] at H
             have c15b0 : decide (50 < (((rd_T52 l0 x3_1).f2).length : Int)) = false := decide_eq_false c15
             have c15b1 : decide (50 < ((rd_T52 l0 x3_1).f2).length) = false := decide_eq_false (by omega)
             clear c15
             by_cases c18 : ((rd_T52 l0 x3_1).f1) = 0
             ·rw [if_pos c18] at H
              have c18b0 : (((rd_T52 l0 x3_1).f1) == 0) = true := beq_iff_eq.mpr c18
              have c18b1 : (((rd_T52 l0 x3_1).f1) != 0) = false := bne_eq_false_iff_eq.mpr c18
              clear c18
              have H' := Aside0.mk H
              clear H
              try go_wp2
              have n0_ : Aside0 ((((w6.setCell ⟨gb168, 0, none⟩ (.string ((rd_T52 l0 x3_1).f0))).setCell ⟨gb168, 1, none⟩ (.int .i64 ((rd_T52 l0 x3_1).f1))).setCell ⟨gb168, 2, none⟩ (.slice A167_2 ((rd_T52 l0 x3_1).f2).length c167_2)).heap[gb168]? = some (.cells #[.string ((rd_T52 l0 x3_1).f0), .int .i64 ((rd_T52 l0 x3_1).f1), .slice A167_2 ((rd_T52 l0 x3_1).f2).length c167_2] 52 (0, 0))) := ⟨by (with_reducible repeat (first | refine blk_drewN ?_ _ | refine blk_drew ?_ | refine blk_alloc ?_ _)); refine blk_put (cs := #[.string ((rd_T52 l0 x3_1).f0), .int .i64 ((rd_T52 l0 x3_1).f1), .slice none 0 0]) ?_ 2 _ rfl; (with_reducible repeat (first | refine blk_drewN ?_ _ | refine blk_drew ?_ | refine blk_alloc ?_ _)); refine blk_put (cs := #[.string ((rd_T52 l0 x3_1).f0), .int .i64 0, .slice none 0 0]) ?_ 1 _ rfl; (with_reducible repeat (first | refine blk_drewN ?_ _ | refine blk_drew ?_ | refine blk_alloc ?_ _)); refine blk_put (cs := #[.string (⟨#[]⟩ : ByteArray), .int .i64 0, .slice none 0 0]) ?_ 0 _ rfl; (with_reducible repeat (first | refine blk_drewN ?_ _ | refine blk_drew ?_ | refine blk_alloc ?_ _)); exact BK168.out⟩
              have n1_ : Aside0 (Below w.heap.size w (((w6.setCell ⟨gb168, 0, none⟩ (.string ((rd_T52 l0 x3_1).f0))).setCell ⟨gb168, 1, none⟩ (.int .i64 ((rd_T52 l0 x3_1).f1))).setCell ⟨gb168, 2, none⟩ (.slice A167_2 ((rd_T52 l0 x3_1).f2).length c167_2))) := ⟨by repeat (first | (with_reducible first | exact HB.out | apply below_alloc | apply pw_below_drewN | apply below_drew1 | refine below_set ?_ GE168.out) | exact HB.out)⟩
              (try clear BK168)
              (try clear HB)
              generalize (((w6.setCell ⟨gb168, 0, none⟩ (.string ((rd_T52 l0 x3_1).f0))).setCell ⟨gb168, 1, none⟩ (.int .i64 ((rd_T52 l0 x3_1).f1))).setCell ⟨gb168, 2, none⟩ (.slice A167_2 ((rd_T52 l0 x3_1).f2).length c167_2)) = w19 at n0_ n1_ ⊢
              have BK168 := n0_
              have HB := n1_
              clear n0_ n1_
              have n0_ := Aside0.mk (blk_drew BK168.out)
              have n1_ := Aside0.mk (below_drew1 HB.out)
              clear BK168
              clear HB
              have BK168 := n0_
              have HB := n1_
              clear n0_ n1_
              have p170 : 0 ≤ ((ji11) : Int) := of_decide_eq_true (by first | (with_reducible assumption) | assumption)
              have q170 : (ji11) < (l0.length : Int) := of_decide_eq_true (by first | (with_reducible assumption) | assumption)
              obtain ⟨ad170, A170_2, c170_2, e170, hx170_0, hx170_1, hx170_2, hl170_2, hi170_2⟩ := at_T52 HR0.out (ji11) p170 q170
              have hw170_2 := hx170_2
              have hw170_1 := hx170_1
              have hw170_0 := hx170_0
              obtain rfl : ad167 = ad170 := (by injection e170)
              try (replace hx170_0 := (HB.out.cell (World.block_lt_of_cell? w _ hx170_0)).trans hx170_0)
              try (replace hx170_1 := (HB.out.cell (World.block_lt_of_cell? w _ hx170_1)).trans hx170_1)
              try (replace hx170_2 := (HB.out.cell (World.block_lt_of_cell? w _ hx170_2)).trans hx170_2)
              have HR170_2 := Aside0.mk hi170_2
              have HC170_2 := Aside0.mk hl170_2
              clear hi170_2 hl170_2
              replace p170 := eq_true p170
              replace q170 := eq_true q170
              refine start_ (n := 37) (S := fun w' => w'.cell? ⟨gb168, 0, none⟩ = some (.string ((rd_T52 l0 x3_1).f0)) ∧ w'.cell? ⟨gb168, 1, none⟩ = some (.int .i64 ((rd_T52 l0 x3_1).f1)) ∧ w'.cell? ⟨gb168, 2, none⟩ = some (.slice A167_2 ((rd_T52 l0 x3_1).f2).length c167_2) ∧ w'.cell? (ad167.add (((ji11)).toNat * 3)) = some (.string ((rd_T52 l0 (ji11)).f0)) ∧ w'.cell? ⟨(ad167.add (((ji11)).toNat * 3)).block, (ad167.add (((ji11)).toNat * 3)).off + 1, none⟩ = some (.int .i64 ((rd_T52 l0 (ji11)).f1)) ∧ w'.cell? ⟨(ad167.add (((ji11)).toNat * 3)).block, (ad167.add (((ji11)).toNat * 3)).off + 2, none⟩ = some (.slice A170_2 ((rd_T52 l0 (ji11)).f2).length c170_2)) (ds := []) (tf 37 0) (by kernel_rfl) rfl rfl ⟨(blk_cell BK168.out 0).trans rfl, (blk_cell BK168.out 1).trans rfl, (blk_cell BK168.out 2).trans rfl, ((HB.out.cell (World.block_lt_of_cell? w _ hw170_0)).trans hw170_0), ((HB.out.cell (World.block_lt_of_cell? w _ hw170_1)).trans hw170_1), ((HB.out.cell (World.block_lt_of_cell? w _ hw170_2)).trans hw170_2)⟩ (fun hHeld => ?_); refine with_tabW spec_ProfilesOk.tab7 spec_ProfilesOk.bits7 (fun HT_ HW_ => ?_)
              generalize w19.drew = w20 at BK168 HB HR170_2 hx170_0 hx170_1 hx170_2 hHeld ⊢
              refine qA 0 20 (tf 37 1) ?_
              refine qT 1 21 (tf 37 3) ?_
              refine one_ (i := 2) (N := some 22) (tf 37 7) rfl rfl (one_of HT_.out (by kernel_rfl)) (by decide) (fun K hK => ?_)
              refine goes_ Try.func30 (by kernel_rfl) rfl #[.string ((rd_T52 l0 x3_1).f0)] (by rfl) rfl rfl (by (try simp only [List.map_toArray, List.map_cons, List.map_nil]); first | done | rfl | (simp only [List.length_drop, List.length_take]; rfl)) ?_
              with_reducible refine (spec_NameOk.calls k1 ((rd_T52 l0 x3_1).f0) true _ A8.out).mono ?_
              rintro e w' ⟨rfl, ⟨nd, rfl⟩⟩
              refine ⟨_, rfl, ?_⟩
              refine hK.out _ _ ⟨(blk_cell BK168.out 0).trans rfl, (blk_cell BK168.out 1).trans rfl, (blk_cell BK168.out 2).trans rfl, ((HB.out.cell (World.block_lt_of_cell? w _ hw170_0)).trans hw170_0), ((HB.out.cell (World.block_lt_of_cell? w _ hw170_1)).trans hw170_1), ((HB.out.cell (World.block_lt_of_cell? w _ hw170_2)).trans hw170_2)⟩ (fun hHeld => ?_)
              clear hK K
              refine norm_ (a' := ?_) ?_ ?_
              rotate_left
              ·show Act.put _ (some 22) _ = _
               simp only [Act.put, sT, s0, sS, i64_w, i32_w]
               rfl
              refine qA 3 23 (tf 37 15) ?_
              refine qA 4 24 (tf 37 31) ?_
              refine qA 5 25 (tf 37 63) ?_
              refine qA 6 26 (tf 37 127) ?_
              refine qA 7 27 (tf 37 255) ?_
              refine qA 8 28 (tf 37 511) ?_
              refine qA 9 29 (tf 37 1023) ?_
              refine qA 10 30 (tf 37 2047) ?_
              refine qA 11 31 (tf 37 4095) ?_
              refine qA 12 32 (tf 37 8191) ?_
              refine qA 14 34 (tf 37 24575) ?_
              refine qT 13 33 (tf 37 32767) ?_
              refine qT 15 35 (tf 37 65535) ?_
              refine qA 16 36 (tf 37 131071) ?_
              refine qA 17 37 (tf 37 262143) ?_
              refine qA 18 38 (tf 37 524287) ?_
              refine qA 19 39 (tf 37 1048575) ?_
              refine qA 20 40 (tf 37 2097151) ?_
              refine qT 21 41 (tf 37 4194303) ?_
              refine qA 22 42 (tf 37 8388607) ?_
              refine qA 23 43 (tf 37 16777215) ?_
              refine qA 24 44 (tf 37 33554431) ?_
              refine qA 25 45 (tf 37 67108863) ?_
              refine qA 26 46 (tf 37 134217727) ?_
              refine qT 27 47 (tf 37 268435455) ?_
              refine qA 28 48 (tf 37 536870911) ?_
              refine qA 29 49 (tf 37 1073741823) ?_
              refine qU 30 50 (tf 37 2147483647) ?_
              refine qU 31 51 (tf 37 4294967295) ?_
              refine qU 32 52 (tf 37 8589934591) ?_
              refine qU 33 53 (tf 37 17179869183) ?_
              refine qU 34 54 (tf 37 34359738367) ?_
              refine qA 35 55 (tf 37 68719476735) ?_
              refine qA 36 56 (tf 37 137438953471) ?_
              refine done_ (done_of HT_.out (by kernel_rfl)) ?_
              try go_wp2
              go_meet
              case rel => exact ⟨_, (false), (by first | rfl | (simp; done) | (simp [*]; done)), H', ⟨by have := HK1.out; first | omega | exact Nat.le_refl _⟩, ⟨by (with_reducible repeat (first | refine blk_drewN ?_ _ | refine blk_drew ?_ | refine blk_alloc ?_ _)); exact BK168.out⟩, ⟨by repeat (first | (with_reducible first | exact HB.out | apply below_alloc | apply pw_below_drewN | apply below_drew1 | refine below_set ?_ GE168.out) | exact HB.out)⟩⟩
             ·rw [if_neg c18] at H
              have c18b0 : (((rd_T52 l0 x3_1).f1) == 0) = false := beq_eq_false_iff_ne.mpr c18
              have c18b1 : (((rd_T52 l0 x3_1).f1) != 0) = true := bne_iff_ne.mpr c18
              replace H := Option.bind_eq_some_iff.mp H
              obtain ⟨t171, A210, H⟩ := H
              replace H : (spec_ProfilesOk.j1 k1 l0 x3_1 (decide (t171 < 0)) ((rd_T52 l0 x3_1).f0) ((rd_T52 l0 x3_1).f1) ((rd_T52 l0 x3_1).f2)) = some r := H
              have A21 := Aside0.mk A210
              clear A210
              have H' := Aside0.mk H
              clear H
              try go_wp2
              have n0_ : Aside0 ((((w6.setCell ⟨gb168, 0, none⟩ (.string ((rd_T52 l0 x3_1).f0))).setCell ⟨gb168, 1, none⟩ (.int .i64 ((rd_T52 l0 x3_1).f1))).setCell ⟨gb168, 2, none⟩ (.slice A167_2 ((rd_T52 l0 x3_1).f2).length c167_2)).heap[gb168]? = some (.cells #[.string ((rd_T52 l0 x3_1).f0), .int .i64 ((rd_T52 l0 x3_1).f1), .slice A167_2 ((rd_T52 l0 x3_1).f2).length c167_2] 52 (0, 0))) := ⟨by (with_reducible repeat (first | refine blk_drewN ?_ _ | refine blk_drew ?_ | refine blk_alloc ?_ _)); refine blk_put (cs := #[.string ((rd_T52 l0 x3_1).f0), .int .i64 ((rd_T52 l0 x3_1).f1), .slice none 0 0]) ?_ 2 _ rfl; (with_reducible repeat (first | refine blk_drewN ?_ _ | refine blk_drew ?_ | refine blk_alloc ?_ _)); refine blk_put (cs := #[.string ((rd_T52 l0 x3_1).f0), .int .i64 0, .slice none 0 0]) ?_ 1 _ rfl; (with_reducible repeat (first | refine blk_drewN ?_ _ | refine blk_drew ?_ | refine blk_alloc ?_ _)); refine blk_put (cs := #[.string (⟨#[]⟩ : ByteArray), .int .i64 0, .slice none 0 0]) ?_ 0 _ rfl; (with_reducible repeat (first | refine blk_drewN ?_ _ | refine blk_drew ?_ | refine blk_alloc ?_ _)); exact BK168.out⟩
              have n1_ : Aside0 (Below w.heap.size w (((w6.setCell ⟨gb168, 0, none⟩ (.string ((rd_T52 l0 x3_1).f0))).setCell ⟨gb168, 1, none⟩ (.int .i64 ((rd_T52 l0 x3_1).f1))).setCell ⟨gb168, 2, none⟩ (.slice A167_2 ((rd_T52 l0 x3_1).f2).length c167_2))) := ⟨by repeat (first | (with_reducible first | exact HB.out | apply below_alloc | apply pw_below_drewN | apply below_drew1 | refine below_set ?_ GE168.out) | exact HB.out)⟩
              (try clear BK168)
              (try clear HB)
              generalize (((w6.setCell ⟨gb168, 0, none⟩ (.string ((rd_T52 l0 x3_1).f0))).setCell ⟨gb168, 1, none⟩ (.int .i64 ((rd_T52 l0 x3_1).f1))).setCell ⟨gb168, 2, none⟩ (.slice A167_2 ((rd_T52 l0 x3_1).f2).length c167_2)) = w22 at n0_ n1_ ⊢
              have BK168 := n0_
              have HB := n1_
              clear n0_ n1_
              have n0_ := Aside0.mk (blk_drew BK168.out)
              have n1_ := Aside0.mk (below_drew1 HB.out)
              clear BK168
              clear HB
              have BK168 := n0_
              have HB := n1_
              clear n0_ n1_
              have p170 : 0 ≤ ((ji11) : Int) := of_decide_eq_true (by first | (with_reducible assumption) | assumption)
              have q170 : (ji11) < (l0.length : Int) := of_decide_eq_true (by first | (with_reducible assumption) | assumption)
              obtain ⟨ad170, A170_2, c170_2, e170, hx170_0, hx170_1, hx170_2, hl170_2, hi170_2⟩ := at_T52 HR0.out (ji11) p170 q170
              have hw170_2 := hx170_2
              have hw170_1 := hx170_1
              have hw170_0 := hx170_0
              obtain rfl : ad167 = ad170 := (by injection e170)
              try (replace hx170_0 := (HB.out.cell (World.block_lt_of_cell? w _ hx170_0)).trans hx170_0)
              try (replace hx170_1 := (HB.out.cell (World.block_lt_of_cell? w _ hx170_1)).trans hx170_1)
              try (replace hx170_2 := (HB.out.cell (World.block_lt_of_cell? w _ hx170_2)).trans hx170_2)
              have HR170_2 := Aside0.mk hi170_2
              have HC170_2 := Aside0.mk hl170_2
              clear hi170_2 hl170_2
              replace p170 := eq_true p170
              replace q170 := eq_true q170
              refine start_ (n := 37) (S := fun w' => w'.cell? ⟨gb168, 0, none⟩ = some (.string ((rd_T52 l0 x3_1).f0)) ∧ w'.cell? ⟨gb168, 1, none⟩ = some (.int .i64 ((rd_T52 l0 x3_1).f1)) ∧ w'.cell? ⟨gb168, 2, none⟩ = some (.slice A167_2 ((rd_T52 l0 x3_1).f2).length c167_2) ∧ w'.cell? (ad167.add (((ji11)).toNat * 3)) = some (.string ((rd_T52 l0 (ji11)).f0)) ∧ w'.cell? ⟨(ad167.add (((ji11)).toNat * 3)).block, (ad167.add (((ji11)).toNat * 3)).off + 1, none⟩ = some (.int .i64 ((rd_T52 l0 (ji11)).f1)) ∧ w'.cell? ⟨(ad167.add (((ji11)).toNat * 3)).block, (ad167.add (((ji11)).toNat * 3)).off + 2, none⟩ = some (.slice A170_2 ((rd_T52 l0 (ji11)).f2).length c170_2)) (ds := []) (tf 37 0) (by kernel_rfl) rfl rfl ⟨(blk_cell BK168.out 0).trans rfl, (blk_cell BK168.out 1).trans rfl, (blk_cell BK168.out 2).trans rfl, ((HB.out.cell (World.block_lt_of_cell? w _ hw170_0)).trans hw170_0), ((HB.out.cell (World.block_lt_of_cell? w _ hw170_1)).trans hw170_1), ((HB.out.cell (World.block_lt_of_cell? w _ hw170_2)).trans hw170_2)⟩ (fun hHeld => ?_); refine with_tabW spec_ProfilesOk.tab7 spec_ProfilesOk.bits7 (fun HT_ HW_ => ?_)
              generalize w22.drew = w23 at BK168 HB HR170_2 hx170_0 hx170_1 hx170_2 hHeld ⊢
              refine qA 0 20 (tf 37 1) ?_
              refine qT 1 21 (tf 37 3) ?_
              refine one_ (i := 2) (N := some 22) (tf 37 7) rfl rfl (one_of HT_.out (by kernel_rfl)) (by decide) (fun K hK => ?_)
              refine goes_ Try.func30 (by kernel_rfl) rfl #[.string ((rd_T52 l0 x3_1).f0)] (by rfl) rfl rfl (by (try simp only [List.map_toArray, List.map_cons, List.map_nil]); first | done | rfl | (simp only [List.length_drop, List.length_take]; rfl)) ?_
              with_reducible refine (spec_NameOk.calls k1 ((rd_T52 l0 x3_1).f0) true _ A8.out).mono ?_
              rintro e w' ⟨rfl, ⟨nd, rfl⟩⟩
              refine ⟨_, rfl, ?_⟩
              refine hK.out _ _ ⟨(blk_cell BK168.out 0).trans rfl, (blk_cell BK168.out 1).trans rfl, (blk_cell BK168.out 2).trans rfl, ((HB.out.cell (World.block_lt_of_cell? w _ hw170_0)).trans hw170_0), ((HB.out.cell (World.block_lt_of_cell? w _ hw170_1)).trans hw170_1), ((HB.out.cell (World.block_lt_of_cell? w _ hw170_2)).trans hw170_2)⟩ (fun hHeld => ?_)
              clear hK K
              refine norm_ (a' := ?_) ?_ ?_
              rotate_left
              ·show Act.put _ (some 22) _ = _
               simp only [Act.put, sT, s0, sS, i64_w, i32_w]
               rfl
              refine qA 3 23 (tf 37 15) ?_
              refine qA 4 24 (tf 37 31) ?_
              refine qA 5 25 (tf 37 63) ?_
              refine qA 6 26 (tf 37 127) ?_
              refine qA 7 27 (tf 37 255) ?_
              refine qA 8 28 (tf 37 511) ?_
              refine qA 9 29 (tf 37 1023) ?_
              refine qA 10 30 (tf 37 2047) ?_
              refine qA 11 31 (tf 37 4095) ?_
              refine qA 12 32 (tf 37 8191) ?_
              refine qA 14 34 (tf 37 24575) ?_
              refine qT 13 33 (tf 37 32767) ?_
              refine qT 15 35 (tf 37 65535) ?_
              refine qA 16 36 (tf 37 131071) ?_
              refine qA 17 37 (tf 37 262143) ?_
              refine qA 18 38 (tf 37 524287) ?_
              refine qA 19 39 (tf 37 1048575) ?_
              refine qA 20 40 (tf 37 2097151) ?_
              refine qT 21 41 (tf 37 4194303) ?_
              refine qA 22 42 (tf 37 8388607) ?_
              refine qA 23 43 (tf 37 16777215) ?_
              refine qA 24 44 (tf 37 33554431) ?_
              refine qA 25 45 (tf 37 67108863) ?_
              refine qA 26 46 (tf 37 134217727) ?_
              refine qT 27 47 (tf 37 268435455) ?_
              refine qA 28 48 (tf 37 536870911) ?_
              refine qA 29 49 (tf 37 1073741823) ?_
              refine qA 31 51 (tf 37 3221225471) ?_
              refine qT 30 50 (tf 37 4294967295) ?_
              refine qT 32 52 (tf 37 8589934591) ?_
              refine one_ (i := 33) (N := some 53) (tf 37 17179869183) rfl rfl (one_of HT_.out (by kernel_rfl)) (by decide) (fun K hK => ?_)
              refine goes_ Try.func31 (by kernel_rfl) rfl #[.agg #[.string ((rd_T52 l0 x3_1).f0), .int .i64 ((rd_T52 l0 x3_1).f1), .slice A167_2 ((rd_T52 l0 x3_1).f2).length c167_2], .int .i64 ((rd_T52 l0 x3_1).f1)] (by rfl) rfl rfl (by (try simp only [List.map_toArray, List.map_cons, List.map_nil]); first | done | rfl | (simp only [List.length_drop, List.length_take]; rfl)) ?_
              with_reducible refine (spec_l13Gen.calls k1 ((rd_T52 l0 x3_1).f0) ((rd_T52 l0 x3_1).f1) _ _ ((rd_T52 l0 x3_1).f2) ((rd_T52 l0 x3_1).f1) t171 _ ?side1 ?side2 A21.out).mono ?_
              (case side1 => repeat (first | exact (Kd.C_below HR167_2.out (qG GE168.out)) | (with_reducible refine Kd.C_alloc ?_ _) | (with_reducible refine Kd.C_drewN ?_ _) | (with_reducible refine Kd.C_drew ?_)))
              (case side2 => exact HC167_2.out)
              rintro e w24 ⟨rfl, hb⟩
              refine ⟨_, rfl, ?_⟩
              have n0_ := Aside0.mk (blk_below (g := gb168) (qK BK168.out) hb)
              have n1_ := Aside0.mk (below_step (qG GE168.out) hb)
              clear BK168
              clear HB
              have BK168 := n0_
              have HB := n1_
              clear n0_ n1_
              (try clear hb)
              (try clear hb2)
              (try clear hk)
              (try clear hi)
              refine hK.out _ _ ⟨(blk_cell BK168.out 0).trans rfl, (blk_cell BK168.out 1).trans rfl, (blk_cell BK168.out 2).trans rfl, ((HB.out.cell (World.block_lt_of_cell? w _ hw170_0)).trans hw170_0), ((HB.out.cell (World.block_lt_of_cell? w _ hw170_1)).trans hw170_1), ((HB.out.cell (World.block_lt_of_cell? w _ hw170_2)).trans hw170_2)⟩ (fun hHeld => ?_)
              clear hK K
              refine norm_ (a' := ?_) ?_ ?_
              rotate_left
              ·show Act.put _ (some 53) _ = _
               simp only [Act.put, sT, s0, sS, i64_w, i32_w]
               rfl
              refine qA 34 54 (tf 37 34359738367) ?_
              refine qA 35 55 (tf 37 68719476735) ?_
              refine qA 36 56 (tf 37 137438953471) ?_
              refine done_ (done_of HT_.out (by kernel_rfl)) ?_
              try go_wp2
              go_meet
              case rel => exact ⟨_, (decide (t171 < 0)), (by first | rfl | (simp; done) | (simp [*]; done)), H', ⟨by have := HK1.out; first | omega | exact Nat.le_refl _⟩, ⟨by (with_reducible repeat (first | refine blk_drewN ?_ _ | refine blk_drew ?_ | refine blk_alloc ?_ _)); exact BK168.out⟩, ⟨by repeat (first | (with_reducible first | exact HB.out | apply below_alloc | apply pw_below_drewN | apply below_drew1 | refine below_set ?_ GE168.out) | exact HB.out)⟩⟩
           ·rw [if_neg c14] at H
            have c14b0 : (Op.bytesLess (((rd_T52 l0 (ji11)).f0).toList) (((rd_T52 l0 x3_1).f0).toList)) = false := by simpa using c14
            clear c14
            have H' := Aside0.mk H
            clear H
            try go_wp2
            have n0_ : Aside0 ((((w6.setCell ⟨gb168, 0, none⟩ (.string ((rd_T52 l0 x3_1).f0))).setCell ⟨gb168, 1, none⟩ (.int .i64 ((rd_T52 l0 x3_1).f1))).setCell ⟨gb168, 2, none⟩ (.slice A167_2 ((rd_T52 l0 x3_1).f2).length c167_2)).heap[gb168]? = some (.cells #[.string ((rd_T52 l0 x3_1).f0), .int .i64 ((rd_T52 l0 x3_1).f1), .slice A167_2 ((rd_T52 l0 x3_1).f2).length c167_2] 52 (0, 0))) := ⟨by (with_reducible repeat (first | refine blk_drewN ?_ _ | refine blk_drew ?_ | refine blk_alloc ?_ _)); refine blk_put (cs := #[.string ((rd_T52 l0 x3_1).f0), .int .i64 ((rd_T52 l0 x3_1).f1), .slice none 0 0]) ?_ 2 _ rfl; (with_reducible repeat (first | refine blk_drewN ?_ _ | refine blk_drew ?_ | refine blk_alloc ?_ _)); refine blk_put (cs := #[.string ((rd_T52 l0 x3_1).f0), .int .i64 0, .slice none 0 0]) ?_ 1 _ rfl; (with_reducible repeat (first | refine blk_drewN ?_ _ | refine blk_drew ?_ | refine blk_alloc ?_ _)); refine blk_put (cs := #[.string (⟨#[]⟩ : ByteArray), .int .i64 0, .slice none 0 0]) ?_ 0 _ rfl; (with_reducible repeat (first | refine blk_drewN ?_ _ | refine blk_drew ?_ | refine blk_alloc ?_ _)); exact BK168.out⟩
            have n1_ : Aside0 (Below w.heap.size w (((w6.setCell ⟨gb168, 0, none⟩ (.string ((rd_T52 l0 x3_1).f0))).setCell ⟨gb168, 1, none⟩ (.int .i64 ((rd_T52 l0 x3_1).f1))).setCell ⟨gb168, 2, none⟩ (.slice A167_2 ((rd_T52 l0 x3_1).f2).length c167_2))) := ⟨by repeat (first | (with_reducible first | exact HB.out | apply below_alloc | apply pw_below_drewN | apply below_drew1 | refine below_set ?_ GE168.out) | exact HB.out)⟩
            (try clear BK168)
            (try clear HB)
            generalize (((w6.setCell ⟨gb168, 0, none⟩ (.string ((rd_T52 l0 x3_1).f0))).setCell ⟨gb168, 1, none⟩ (.int .i64 ((rd_T52 l0 x3_1).f1))).setCell ⟨gb168, 2, none⟩ (.slice A167_2 ((rd_T52 l0 x3_1).f2).length c167_2)) = w25 at n0_ n1_ ⊢
            have BK168 := n0_
            have HB := n1_
            clear n0_ n1_
            have n0_ := Aside0.mk (blk_drew BK168.out)
            have n1_ := Aside0.mk (below_drew1 HB.out)
            clear BK168
            clear HB
            have BK168 := n0_
            have HB := n1_
            clear n0_ n1_
            have p170 : 0 ≤ ((ji11) : Int) := of_decide_eq_true (by first | (with_reducible assumption) | assumption)
            have q170 : (ji11) < (l0.length : Int) := of_decide_eq_true (by first | (with_reducible assumption) | assumption)
            obtain ⟨ad170, A170_2, c170_2, e170, hx170_0, hx170_1, hx170_2, hl170_2, hi170_2⟩ := at_T52 HR0.out (ji11) p170 q170
            have hw170_2 := hx170_2
            have hw170_1 := hx170_1
            have hw170_0 := hx170_0
            obtain rfl : ad167 = ad170 := (by injection e170)
            try (replace hx170_0 := (HB.out.cell (World.block_lt_of_cell? w _ hx170_0)).trans hx170_0)
            try (replace hx170_1 := (HB.out.cell (World.block_lt_of_cell? w _ hx170_1)).trans hx170_1)
            try (replace hx170_2 := (HB.out.cell (World.block_lt_of_cell? w _ hx170_2)).trans hx170_2)
            have HR170_2 := Aside0.mk hi170_2
            have HC170_2 := Aside0.mk hl170_2
            clear hi170_2 hl170_2
            replace p170 := eq_true p170
            replace q170 := eq_true q170
            refine start_ (n := 37) (S := fun w' => w'.cell? ⟨gb168, 0, none⟩ = some (.string ((rd_T52 l0 x3_1).f0)) ∧ w'.cell? ⟨gb168, 1, none⟩ = some (.int .i64 ((rd_T52 l0 x3_1).f1)) ∧ w'.cell? ⟨gb168, 2, none⟩ = some (.slice A167_2 ((rd_T52 l0 x3_1).f2).length c167_2) ∧ w'.cell? (ad167.add (((ji11)).toNat * 3)) = some (.string ((rd_T52 l0 (ji11)).f0)) ∧ w'.cell? ⟨(ad167.add (((ji11)).toNat * 3)).block, (ad167.add (((ji11)).toNat * 3)).off + 1, none⟩ = some (.int .i64 ((rd_T52 l0 (ji11)).f1)) ∧ w'.cell? ⟨(ad167.add (((ji11)).toNat * 3)).block, (ad167.add (((ji11)).toNat * 3)).off + 2, none⟩ = some (.slice A170_2 ((rd_T52 l0 (ji11)).f2).length c170_2)) (ds := []) (tf 37 0) (by kernel_rfl) rfl rfl ⟨(blk_cell BK168.out 0).trans rfl, (blk_cell BK168.out 1).trans rfl, (blk_cell BK168.out 2).trans rfl, ((HB.out.cell (World.block_lt_of_cell? w _ hw170_0)).trans hw170_0), ((HB.out.cell (World.block_lt_of_cell? w _ hw170_1)).trans hw170_1), ((HB.out.cell (World.block_lt_of_cell? w _ hw170_2)).trans hw170_2)⟩ (fun hHeld => ?_); refine with_tabW spec_ProfilesOk.tab7 spec_ProfilesOk.bits7 (fun HT_ HW_ => ?_)
            generalize w25.drew = w26 at BK168 HB HR170_2 hx170_0 hx170_1 hx170_2 hHeld ⊢
            refine qA 0 20 (tf 37 1) ?_
            refine qT 1 21 (tf 37 3) ?_
            refine one_ (i := 2) (N := some 22) (tf 37 7) rfl rfl (one_of HT_.out (by kernel_rfl)) (by decide) (fun K hK => ?_)
            refine goes_ Try.func30 (by kernel_rfl) rfl #[.string ((rd_T52 l0 x3_1).f0)] (by rfl) rfl rfl (by (try simp only [List.map_toArray, List.map_cons, List.map_nil]); first | done | rfl | (simp only [List.length_drop, List.length_take]; rfl)) ?_
            with_reducible refine (spec_NameOk.calls k1 ((rd_T52 l0 x3_1).f0) true _ A8.out).mono ?_
            rintro e w' ⟨rfl, ⟨nd, rfl⟩⟩
            refine ⟨_, rfl, ?_⟩
            refine hK.out _ _ ⟨(blk_cell BK168.out 0).trans rfl, (blk_cell BK168.out 1).trans rfl, (blk_cell BK168.out 2).trans rfl, ((HB.out.cell (World.block_lt_of_cell? w _ hw170_0)).trans hw170_0), ((HB.out.cell (World.block_lt_of_cell? w _ hw170_1)).trans hw170_1), ((HB.out.cell (World.block_lt_of_cell? w _ hw170_2)).trans hw170_2)⟩ (fun hHeld => ?_)
            clear hK K
            refine norm_ (a' := ?_) ?_ ?_
            rotate_left
            ·show Act.put _ (some 22) _ = _
             simp only [Act.put, sT, s0, sS, i64_w, i32_w]
             rfl
            refine qA 3 23 (tf 37 15) ?_
            refine qA 4 24 (tf 37 31) ?_
            refine qA 5 25 (tf 37 63) ?_
            refine qA 6 26 (tf 37 127) ?_
            refine qA 7 27 (tf 37 255) ?_
            refine qA 8 28 (tf 37 511) ?_
            refine qA 9 29 (tf 37 1023) ?_
            refine qA 10 30 (tf 37 2047) ?_
            refine qA 11 31 (tf 37 4095) ?_
            refine qA 12 32 (tf 37 8191) ?_
            refine qA 14 34 (tf 37 24575) ?_
            refine qT 13 33 (tf 37 32767) ?_
            refine qT 15 35 (tf 37 65535) ?_
            refine qA 16 36 (tf 37 131071) ?_
            refine qA 17 37 (tf 37 262143) ?_
            refine qA 18 38 (tf 37 524287) ?_
            refine qA 19 39 (tf 37 1048575) ?_
            refine qU 20 40 (tf 37 2097151) ?_
            refine qU 21 41 (tf 37 4194303) ?_
            refine qU 22 42 (tf 37 8388607) ?_
            refine qU 23 43 (tf 37 16777215) ?_
            refine qA 24 44 (tf 37 33554431) ?_
            refine qA 25 45 (tf 37 67108863) ?_
            refine qU 26 46 (tf 37 134217727) ?_
            refine qU 27 47 (tf 37 268435455) ?_
            refine qU 28 48 (tf 37 536870911) ?_
            refine qU 29 49 (tf 37 1073741823) ?_
            refine qU 30 50 (tf 37 2147483647) ?_
            refine qU 31 51 (tf 37 4294967295) ?_
            refine qU 32 52 (tf 37 8589934591) ?_
            refine qU 33 53 (tf 37 17179869183) ?_
            refine qU 34 54 (tf 37 34359738367) ?_
            refine qU 35 55 (tf 37 68719476735) ?_
            refine qA 36 56 (tf 37 137438953471) ?_
            refine done_ (done_of HT_.out (by kernel_rfl)) ?_
            try go_wp2
            go_meet
            case rel => exact ⟨_, (true), (by first | rfl | (simp; done) | (simp [*]; done)), H', ⟨by have := HK1.out; first | omega | exact Nat.le_refl _⟩, ⟨by (with_reducible repeat (first | refine blk_drewN ?_ _ | refine blk_drew ?_ | refine blk_alloc ?_ _)); exact BK168.out⟩, ⟨by repeat (first | (with_reducible first | exact HB.out | apply below_alloc | apply pw_below_drewN | apply below_drew1 | refine below_set ?_ GE168.out) | exact HB.out)⟩⟩
          ·rw [if_neg c13] at H
           exact absurd H (by simp)
         ·rw [if_neg c12] at H
          exact absurd H (by simp)
        ·rw [if_neg c10] at H
         have c10b0 : decide (0 < x3_1) = false := decide_eq_false c10
         clear c10
         (first | rw [c10b0] | (simp only [i64_w, i32_w]; rw [c10b0]) | skip)
         by_cases c27 : (((rd_T52 l0 x3_1).f2).length : Int) > 50
         ·rw [if_pos c27] at H
          have c27b0 : decide (50 < (((rd_T52 l0 x3_1).f2).length : Int)) = true := decide_eq_true c27
          have c27b1 : decide (50 < ((rd_T52 l0 x3_1).f2).length) = true := decide_eq_true (by omega)
          clear c27
          have H' := Aside0.mk H
          clear H
          try go_wp2
          have n0_ : Aside0 ((((w6.setCell ⟨gb168, 0, none⟩ (.string ((rd_T52 l0 x3_1).f0))).setCell ⟨gb168, 1, none⟩ (.int .i64 ((rd_T52 l0 x3_1).f1))).setCell ⟨gb168, 2, none⟩ (.slice A167_2 ((rd_T52 l0 x3_1).f2).length c167_2)).heap[gb168]? = some (.cells #[.string ((rd_T52 l0 x3_1).f0), .int .i64 ((rd_T52 l0 x3_1).f1), .slice A167_2 ((rd_T52 l0 x3_1).f2).length c167_2] 52 (0, 0))) := ⟨by (with_reducible repeat (first | refine blk_drewN ?_ _ | refine blk_drew ?_ | refine blk_alloc ?_ _)); refine blk_put (cs := #[.string ((rd_T52 l0 x3_1).f0), .int .i64 ((rd_T52 l0 x3_1).f1), .slice none 0 0]) ?_ 2 _ rfl; (with_reducible repeat (first | refine blk_drewN ?_ _ | refine blk_drew ?_ | refine blk_alloc ?_ _)); refine blk_put (cs := #[.string ((rd_T52 l0 x3_1).f0), .int .i64 0, .slice none 0 0]) ?_ 1 _ rfl; (with_reducible repeat (first | refine blk_drewN ?_ _ | refine blk_drew ?_ | refine blk_alloc ?_ _)); refine blk_put (cs := #[.string (⟨#[]⟩ : ByteArray), .int .i64 0, .slice none 0 0]) ?_ 0 _ rfl; (with_reducible repeat (first | refine blk_drewN ?_ _ | refine blk_drew ?_ | refine blk_alloc ?_ _)); exact BK168.out⟩
          have n1_ : Aside0 (Below w.heap.size w (((w6.setCell ⟨gb168, 0, none⟩ (.string ((rd_T52 l0 x3_1).f0))).setCell ⟨gb168, 1, none⟩ (.int .i64 ((rd_T52 l0 x3_1).f1))).setCell ⟨gb168, 2, none⟩ (.slice A167_2 ((rd_T52 l0 x3_1).f2).length c167_2))) := ⟨by repeat (first | (with_reducible first | exact HB.out | apply below_alloc | apply pw_below_drewN | apply below_drew1 | refine below_set ?_ GE168.out) | exact HB.out)⟩
          (try clear BK168)
          (try clear HB)
          generalize (((w6.setCell ⟨gb168, 0, none⟩ (.string ((rd_T52 l0 x3_1).f0))).setCell ⟨gb168, 1, none⟩ (.int .i64 ((rd_T52 l0 x3_1).f1))).setCell ⟨gb168, 2, none⟩ (.slice A167_2 ((rd_T52 l0 x3_1).f2).length c167_2)) = w28 at n0_ n1_ ⊢
          have BK168 := n0_
          have HB := n1_
          clear n0_ n1_
          have n0_ := Aside0.mk (blk_drew BK168.out)
          have n1_ := Aside0.mk (below_drew1 HB.out)
          clear BK168
          clear HB
          have BK168 := n0_
          have HB := n1_
          clear n0_ n1_
          refine start_ (n := 37) (S := fun w' => w'.cell? ⟨gb168, 0, none⟩ = some (.string ((rd_T52 l0 x3_1).f0)) ∧ w'.cell? ⟨gb168, 1, none⟩ = some (.int .i64 ((rd_T52 l0 x3_1).f1)) ∧ w'.cell? ⟨gb168, 2, none⟩ = some (.slice A167_2 ((rd_T52 l0 x3_1).f2).length c167_2)) (ds := []) (tf 37 0) (by kernel_rfl) rfl rfl ⟨(blk_cell BK168.out 0).trans rfl, (blk_cell BK168.out 1).trans rfl, (blk_cell BK168.out 2).trans rfl⟩ (fun hHeld => ?_); refine with_tabW spec_ProfilesOk.tab7 spec_ProfilesOk.bits7 (fun HT_ HW_ => ?_)
          generalize w28.drew = w29 at BK168 HB hHeld ⊢
          refine qA 0 20 (tf 37 1) ?_
          refine qT 1 21 (tf 37 3) ?_
          refine one_ (i := 2) (N := some 22) (tf 37 7) rfl rfl (one_of HT_.out (by kernel_rfl)) (by decide) (fun K hK => ?_)
          refine goes_ Try.func30 (by kernel_rfl) rfl #[.string ((rd_T52 l0 x3_1).f0)] (by rfl) rfl rfl (by (try simp only [List.map_toArray, List.map_cons, List.map_nil]); first | done | rfl | (simp only [List.length_drop, List.length_take]; rfl)) ?_
          with_reducible refine (spec_NameOk.calls k1 ((rd_T52 l0 x3_1).f0) true _ A8.out).mono ?_
          rintro e w' ⟨rfl, ⟨nd, rfl⟩⟩
          refine ⟨_, rfl, ?_⟩
          refine hK.out _ _ ⟨(blk_cell BK168.out 0).trans rfl, (blk_cell BK168.out 1).trans rfl, (blk_cell BK168.out 2).trans rfl⟩ (fun hHeld => ?_)
          clear hK K
          refine norm_ (a' := ?_) ?_ ?_
          rotate_left
          ·show Act.put _ (some 22) _ = _
           simp only [Act.put, sT, s0, sS, i64_w, i32_w]
           rfl
          refine qA 3 23 (tf 37 15) ?_
          refine qA 4 24 (tf 37 31) ?_
          refine qA 5 25 (tf 37 63) ?_
          refine qA 6 26 (tf 37 127) ?_
          refine qA 7 27 (tf 37 255) ?_
          refine qU 8 28 (tf 37 511) ?_
          refine qU 9 29 (tf 37 1023) ?_
          refine qU 10 30 (tf 37 2047) ?_
          refine qU 11 31 (tf 37 4095) ?_
          refine qU 12 32 (tf 37 8191) ?_
          refine qU 13 33 (tf 37 16383) ?_
          refine qU 14 34 (tf 37 32767) ?_
          refine qU 15 35 (tf 37 65535) ?_
          refine qU 16 36 (tf 37 131071) ?_
          refine qA 17 37 (tf 37 262143) ?_
          refine qA 18 38 (tf 37 524287) ?_
          refine qA 19 39 (tf 37 1048575) ?_
          refine qA 20 40 (tf 37 2097151) ?_
          refine qT 21 41 (tf 37 4194303) ?_
          refine qA 22 42 (tf 37 8388607) ?_
          refine qA 23 43 (tf 37 16777215) ?_
          refine qA 24 44 (tf 37 33554431) ?_
          refine qA 25 45 (tf 37 67108863) ?_
          refine qU 26 46 (tf 37 134217727) ?_
          refine qU 27 47 (tf 37 268435455) ?_
          refine qU 28 48 (tf 37 536870911) ?_
          refine qU 29 49 (tf 37 1073741823) ?_
          refine qU 30 50 (tf 37 2147483647) ?_
          refine qU 31 51 (tf 37 4294967295) ?_
          refine qU 32 52 (tf 37 8589934591) ?_
          refine qU 33 53 (tf 37 17179869183) ?_
          refine qU 34 54 (tf 37 34359738367) ?_
          refine qU 35 55 (tf 37 68719476735) ?_
          refine qA 36 56 (tf 37 137438953471) ?_
          refine done_ (done_of HT_.out (by kernel_rfl)) ?_
          try go_wp2
          go_meet
          case rel => exact ⟨_, (true), (by first | rfl | (simp; done) | (simp [*]; done)), H', ⟨by have := HK1.out; first | omega | exact Nat.le_refl _⟩, ⟨by (with_reducible repeat (first | refine blk_drewN ?_ _ | refine blk_drew ?_ | refine blk_alloc ?_ _)); exact BK168.out⟩, ⟨by repeat (first | (with_reducible first | exact HB.out | apply below_alloc | apply pw_below_drewN | apply below_drew1 | refine below_set ?_ GE168.out) | exact HB.out)⟩⟩
         ·rw [if_neg c27] at H
          have c27b0 : decide (50 < (((rd_T52 l0 x3_1).f2).length : Int)) = false := decide_eq_false c27
          have c27b1 : decide (50 < ((rd_T52 l0 x3_1).f2).length) = false := decide_eq_false (by omega)
          clear c27
          by_cases c30 : ((rd_T52 l0 x3_1).f1) = 0
          ·rw [if_pos c30] at H
           have c30b0 : (((rd_T52 l0 x3_1).f1) == 0) = true := beq_iff_eq.mpr c30
           have c30b1 : (((rd_T52 l0 x3_1).f1) != 0) = false := bne_eq_false_iff_eq.mpr c30
           clear c30
           have H' := Aside0.mk H
           clear H
           try go_wp2
           have n0_ : Aside0 ((((w6.setCell ⟨gb168, 0, none⟩ (.string ((rd_T52 l0 x3_1).f0))).setCell ⟨gb168, 1, none⟩ (.int .i64 ((rd_T52 l0 x3_1).f1))).setCell ⟨gb168, 2, none⟩ (.slice A167_2 ((rd_T52 l0 x3_1).f2).length c167_2)).heap[gb168]? = some (.cells #[.string ((rd_T52 l0 x3_1).f0), .int .i64 ((rd_T52 l0 x3_1).f1), .slice A167_2 ((rd_T52 l0 x3_1).f2).length c167_2] 52 (0, 0))) := ⟨by (with_reducible repeat (first | refine blk_drewN ?_ _ | refine blk_drew ?_ | refine blk_alloc ?_ _)); refine blk_put (cs := #[.string ((rd_T52 l0 x3_1).f0), .int .i64 ((rd_T52 l0 x3_1).f1), .slice none 0 0]) ?_ 2 _ rfl; (with_reducible repeat (first | refine blk_drewN ?_ _ | refine blk_drew ?_ | refine blk_alloc ?_ _)); refine blk_put (cs := #[.string ((rd_T52 l0 x3_1).f0), .int .i64 0, .slice none 0 0]) ?_ 1 _ rfl; (with_reducible repeat (first | refine blk_drewN ?_ _ | refine blk_drew ?_ | refine blk_alloc ?_ _)); refine blk_put (cs := #[.string (⟨#[]⟩ : ByteArray), .int .i64 0, .slice none 0 0]) ?_ 0 _ rfl; (with_reducible repeat (first | refine blk_drewN ?_ _ | refine blk_drew ?_ | refine blk_alloc ?_ _)); exact BK168.out⟩
           have n1_ : Aside0 (Below w.heap.size w (((w6.setCell ⟨gb168, 0, none⟩ (.string ((rd_T52 l0 x3_1).f0))).setCell ⟨gb168, 1, none⟩ (.int .i64 ((rd_T52 l0 x3_1).f1))).setCell ⟨gb168, 2, none⟩ (.slice A167_2 ((rd_T52 l0 x3_1).f2).length c167_2))) := ⟨by repeat (first | (with_reducible first | exact HB.out | apply below_alloc | apply pw_below_drewN | apply below_drew1 | refine below_set ?_ GE168.out) | exact HB.out)⟩
           (try clear BK168)
           (try clear HB)
           generalize (((w6.setCell ⟨gb168, 0, none⟩ (.string ((rd_T52 l0 x3_1).f0))).setCell ⟨gb168, 1, none⟩ (.int .i64 ((rd_T52 l0 x3_1).f1))).setCell ⟨gb168, 2, none⟩ (.slice A167_2 ((rd_T52 l0 x3_1).f2).length c167_2)) = w31 at n0_ n1_ ⊢
           have BK168 := n0_
           have HB := n1_
           clear n0_ n1_
           have n0_ := Aside0.mk (blk_drew BK168.out)
           have n1_ := Aside0.mk (below_drew1 HB.out)
           clear BK168
           clear HB
           have BK168 := n0_
           have HB := n1_
           clear n0_ n1_
           refine start_ (n := 37) (S := fun w' => w'.cell? ⟨gb168, 0, none⟩ = some (.string ((rd_T52 l0 x3_1).f0)) ∧ w'.cell? ⟨gb168, 1, none⟩ = some (.int .i64 ((rd_T52 l0 x3_1).f1)) ∧ w'.cell? ⟨gb168, 2, none⟩ = some (.slice A167_2 ((rd_T52 l0 x3_1).f2).length c167_2)) (ds := []) (tf 37 0) (by kernel_rfl) rfl rfl ⟨(blk_cell BK168.out 0).trans rfl, (blk_cell BK168.out 1).trans rfl, (blk_cell BK168.out 2).trans rfl⟩ (fun hHeld => ?_); refine with_tabW spec_ProfilesOk.tab7 spec_ProfilesOk.bits7 (fun HT_ HW_ => ?_)
           generalize w31.drew = w32 at BK168 HB hHeld ⊢
           refine qA 0 20 (tf 37 1) ?_
           refine qT 1 21 (tf 37 3) ?_
           refine one_ (i := 2) (N := some 22) (tf 37 7) rfl rfl (one_of HT_.out (by kernel_rfl)) (by decide) (fun K hK => ?_)
           refine goes_ Try.func30 (by kernel_rfl) rfl #[.string ((rd_T52 l0 x3_1).f0)] (by rfl) rfl rfl (by (try simp only [List.map_toArray, List.map_cons, List.map_nil]); first | done | rfl | (simp only [List.length_drop, List.length_take]; rfl)) ?_
           with_reducible refine (spec_NameOk.calls k1 ((rd_T52 l0 x3_1).f0) true _ A8.out).mono ?_
           rintro e w' ⟨rfl, ⟨nd, rfl⟩⟩
           refine ⟨_, rfl, ?_⟩
           refine hK.out _ _ ⟨(blk_cell BK168.out 0).trans rfl, (blk_cell BK168.out 1).trans rfl, (blk_cell BK168.out 2).trans rfl⟩ (fun hHeld => ?_)
           clear hK K
           refine norm_ (a' := ?_) ?_ ?_
           rotate_left
           ·show Act.put _ (some 22) _ = _
            simp only [Act.put, sT, s0, sS, i64_w, i32_w]
            rfl
           refine qA 3 23 (tf 37 15) ?_
           refine qA 4 24 (tf 37 31) ?_
           refine qA 5 25 (tf 37 63) ?_
           refine qA 6 26 (tf 37 127) ?_
           refine qA 7 27 (tf 37 255) ?_
           refine qU 8 28 (tf 37 511) ?_
           refine qU 9 29 (tf 37 1023) ?_
           refine qU 10 30 (tf 37 2047) ?_
           refine qU 11 31 (tf 37 4095) ?_
           refine qU 12 32 (tf 37 8191) ?_
           refine qU 13 33 (tf 37 16383) ?_
           refine qU 14 34 (tf 37 32767) ?_
           refine qU 15 35 (tf 37 65535) ?_
           refine qU 16 36 (tf 37 131071) ?_
           refine qA 17 37 (tf 37 262143) ?_
           refine qA 18 38 (tf 37 524287) ?_
           refine qA 19 39 (tf 37 1048575) ?_
           refine qA 20 40 (tf 37 2097151) ?_
           refine qT 21 41 (tf 37 4194303) ?_
           refine qA 22 42 (tf 37 8388607) ?_
           refine qA 23 43 (tf 37 16777215) ?_
           refine qA 24 44 (tf 37 33554431) ?_
           refine qA 25 45 (tf 37 67108863) ?_
           refine qA 26 46 (tf 37 134217727) ?_
           refine qT 27 47 (tf 37 268435455) ?_
           refine qA 28 48 (tf 37 536870911) ?_
           refine qA 29 49 (tf 37 1073741823) ?_
           refine qU 30 50 (tf 37 2147483647) ?_
           refine qU 31 51 (tf 37 4294967295) ?_
           refine qU 32 52 (tf 37 8589934591) ?_
           refine qU 33 53 (tf 37 17179869183) ?_
           refine qU 34 54 (tf 37 34359738367) ?_
           refine qA 35 55 (tf 37 68719476735) ?_
           refine qA 36 56 (tf 37 137438953471) ?_
           refine done_ (done_of HT_.out (by kernel_rfl)) ?_
           try go_wp2
           go_meet
           case rel => exact ⟨_, (false), (by first | rfl | (simp; done) | (simp [*]; done)), H', ⟨by have := HK1.out; first | omega | exact Nat.le_refl _⟩, ⟨by (with_reducible repeat (first | refine blk_drewN ?_ _ | refine blk_drew ?_ | refine blk_alloc ?_ _)); exact BK168.out⟩, ⟨by repeat (first | (with_reducible first | exact HB.out | apply below_alloc | apply pw_below_drewN | apply below_drew1 | refine below_set ?_ GE168.out) | exact HB.out)⟩⟩
          ·rw [if_neg c30] at H
           have c30b0 : (((rd_T52 l0 x3_1).f1) == 0) = false := beq_eq_false_iff_ne.mpr c30
           have c30b1 : (((rd_T52 l0 x3_1).f1) != 0) = true := bne_iff_ne.mpr c30
           replace H := Option.bind_eq_some_iff.mp H
           obtain ⟨t172, A330, H⟩ := H
           replace H : (spec_ProfilesOk.j1 k1 l0 x3_1 (decide (t172 < 0)) ((rd_T52 l0 x3_1).f0) ((rd_T52 l0 x3_1).f1) ((rd_T52 l0 x3_1).f2)) = some r := H
           have A33 := Aside0.mk A330
           clear A330
           have H' := Aside0.mk H
           clear H
           try go_wp2
           have n0_ : Aside0 ((((w6.setCell ⟨gb168, 0, none⟩ (.string ((rd_T52 l0 x3_1).f0))).setCell ⟨gb168, 1, none⟩ (.int .i64 ((rd_T52 l0 x3_1).f1))).setCell ⟨gb168, 2, none⟩ (.slice A167_2 ((rd_T52 l0 x3_1).f2).length c167_2)).heap[gb168]? = some (.cells #[.string ((rd_T52 l0 x3_1).f0), .int .i64 ((rd_T52 l0 x3_1).f1), .slice A167_2 ((rd_T52 l0 x3_1).f2).length c167_2] 52 (0, 0))) := ⟨by (with_reducible repeat (first | refine blk_drewN ?_ _ | refine blk_drew ?_ | refine blk_alloc ?_ _)); refine blk_put (cs := #[.string ((rd_T52 l0 x3_1).f0), .int .i64 ((rd_T52 l0 x3_1).f1), .slice none 0 0]) ?_ 2 _ rfl; (with_reducible repeat (first | refine blk_drewN ?_ _ | refine blk_drew ?_ | refine blk_alloc ?_ _)); refine blk_put (cs := #[.string ((rd_T52 l0 x3_1).f0), .int .i64 0, .slice none 0 0]) ?_ 1 _ rfl; (with_reducible repeat (first | refine blk_drewN ?_ _ | refine blk_drew ?_ | refine blk_alloc ?_ _)); refine blk_put (cs := #[.string (⟨#[]⟩ : ByteArray), .int .i64 0, .slice none 0 0]) ?_ 0 _ rfl; (with_reducible repeat (first | refine blk_drewN ?_ _ | refine blk_drew ?_ | refine blk_alloc ?_ _)); exact BK168.out⟩
           have n1_ : Aside0 (Below w.heap.size w (((w6.setCell ⟨gb168, 0, none⟩ (.string ((rd_T52 l0 x3_1).f0))).setCell ⟨gb168, 1, none⟩ (.int .i64 ((rd_T52 l0 x3_1).f1))).setCell ⟨gb168, 2, none⟩ (.slice A167_2 ((rd_T52 l0 x3_1).f2).length c167_2))) := ⟨by repeat (first | (with_reducible first | exact HB.out | apply below_alloc | apply pw_below_drewN | apply below_drew1 | refine below_set ?_ GE168.out) | exact HB.out)⟩
           (try clear BK168)
           (try clear HB)
           generalize (((w6.setCell ⟨gb168, 0, none⟩ (.string ((rd_T52 l0 x3_1).f0))).setCell ⟨gb168, 1, none⟩ (.int .i64 ((rd_T52 l0 x3_1).f1))).setCell ⟨gb168, 2, none⟩ (.slice A167_2 ((rd_T52 l0 x3_1).f2).length c167_2)) = w34 at n0_ n1_ ⊢
           have BK168 := n0_
           have HB := n1_
           clear n0_ n1_
           have n0_ := Aside0.mk (blk_drew BK168.out)
           have n1_ := Aside0.mk (below_drew1 HB.out)
           clear BK168
           clear HB
           have BK168 := n0_
           have HB := n1_
           clear n0_ n1_
           refine start_ (n := 37) (S := fun w' => w'.cell? ⟨gb168, 0, none⟩ = some (.string ((rd_T52 l0 x3_1).f0)) ∧ w'.cell? ⟨gb168, 1, none⟩ = some (.int .i64 ((rd_T52 l0 x3_1).f1)) ∧ w'.cell? ⟨gb168, 2, none⟩ = some (.slice A167_2 ((rd_T52 l0 x3_1).f2).length c167_2)) (ds := []) (tf 37 0) (by kernel_rfl) rfl rfl ⟨(blk_cell BK168.out 0).trans rfl, (blk_cell BK168.out 1).trans rfl, (blk_cell BK168.out 2).trans rfl⟩ (fun hHeld => ?_); refine with_tabW spec_ProfilesOk.tab7 spec_ProfilesOk.bits7 (fun HT_ HW_ => ?_)
           generalize w34.drew = w35 at BK168 HB hHeld ⊢
           refine qA 0 20 (tf 37 1) ?_
           refine qT 1 21 (tf 37 3) ?_
           refine one_ (i := 2) (N := some 22) (tf 37 7) rfl rfl (one_of HT_.out (by kernel_rfl)) (by decide) (fun K hK => ?_)
           refine goes_ Try.func30 (by kernel_rfl) rfl #[.string ((rd_T52 l0 x3_1).f0)] (by rfl) rfl rfl (by (try simp only [List.map_toArray, List.map_cons, List.map_nil]); first | done | rfl | (simp only [List.length_drop, List.length_take]; rfl)) ?_
           with_reducible refine (spec_NameOk.calls k1 ((rd_T52 l0 x3_1).f0) true _ A8.out).mono ?_
           rintro e w' ⟨rfl, ⟨nd, rfl⟩⟩
           refine ⟨_, rfl, ?_⟩
           refine hK.out _ _ ⟨(blk_cell BK168.out 0).trans rfl, (blk_cell BK168.out 1).trans rfl, (blk_cell BK168.out 2).trans rfl⟩ (fun hHeld => ?_)
           clear hK K
           refine norm_ (a' := ?_) ?_ ?_
           rotate_left
           ·show Act.put _ (some 22) _ = _
            simp only [Act.put, sT, s0, sS, i64_w, i32_w]
            rfl
           refine qA 3 23 (tf 37 15) ?_
           refine qA 4 24 (tf 37 31) ?_
           refine qA 5 25 (tf 37 63) ?_
           refine qA 6 26 (tf 37 127) ?_
           refine qA 7 27 (tf 37 255) ?_
           refine qU 8 28 (tf 37 511) ?_
           refine qU 9 29 (tf 37 1023) ?_
           refine qU 10 30 (tf 37 2047) ?_
           refine qU 11 31 (tf 37 4095) ?_
           refine qU 12 32 (tf 37 8191) ?_
           refine qU 13 33 (tf 37 16383) ?_
           refine qU 14 34 (tf 37 32767) ?_
           refine qU 15 35 (tf 37 65535) ?_
           refine qU 16 36 (tf 37 131071) ?_
           refine qA 17 37 (tf 37 262143) ?_
           refine qA 18 38 (tf 37 524287) ?_
           refine qA 19 39 (tf 37 1048575) ?_
           refine qA 20 40 (tf 37 2097151) ?_
           refine qT 21 41 (tf 37 4194303) ?_
           refine qA 22 42 (tf 37 8388607) ?_
           refine qA 23 43 (tf 37 16777215) ?_
           refine qA 24 44 (tf 37 33554431) ?_
           refine qA 25 45 (tf 37 67108863) ?_
           refine qA 26 46 (tf 37 134217727) ?_
           refine qT 27 47 (tf 37 268435455) ?_
           refine qA 28 48 (tf 37 536870911) ?_
           refine qA 29 49 (tf 37 1073741823) ?_
           refine qA 31 51 (tf 37 3221225471) ?_
           refine qT 30 50 (tf 37 4294967295) ?_
           refine qT 32 52 (tf 37 8589934591) ?_
           refine one_ (i := 33) (N := some 53) (tf 37 17179869183) rfl rfl (one_of HT_.out (by kernel_rfl)) (by decide) (fun K hK => ?_)
           refine goes_ Try.func31 (by kernel_rfl) rfl #[.agg #[.string ((rd_T52 l0 x3_1).f0), .int .i64 ((rd_T52 l0 x3_1).f1), .slice A167_2 ((rd_T52 l0 x3_1).f2).length c167_2], .int .i64 ((rd_T52 l0 x3_1).f1)] (by rfl) rfl rfl (by (try simp only [List.map_toArray, List.map_cons, List.map_nil]); first | done | rfl | (simp only [List.length_drop, List.length_take]; rfl)) ?_
           with_reducible refine (spec_l13Gen.calls k1 ((rd_T52 l0 x3_1).f0) ((rd_T52 l0 x3_1).f1) _ _ ((rd_T52 l0 x3_1).f2) ((rd_T52 l0 x3_1).f1) t172 _ ?side1 ?side2 A33.out).mono ?_
           (case side1 => repeat (first | exact (Kd.C_below HR167_2.out (qG GE168.out)) | (with_reducible refine Kd.C_alloc ?_ _) | (with_reducible refine Kd.C_drewN ?_ _) | (with_reducible refine Kd.C_drew ?_)))
           (case side2 => exact HC167_2.out)
           rintro e w36 ⟨rfl, hb⟩
           refine ⟨_, rfl, ?_⟩
           have n0_ := Aside0.mk (blk_below (g := gb168) (qK BK168.out) hb)
           have n1_ := Aside0.mk (below_step (qG GE168.out) hb)
           clear BK168
           clear HB
           have BK168 := n0_
           have HB := n1_
           clear n0_ n1_
           (try clear hb)
           (try clear hb2)
           (try clear hk)
           (try clear hi)
           refine hK.out _ _ ⟨(blk_cell BK168.out 0).trans rfl, (blk_cell BK168.out 1).trans rfl, (blk_cell BK168.out 2).trans rfl⟩ (fun hHeld => ?_)
           clear hK K
           refine norm_ (a' := ?_) ?_ ?_
           rotate_left
           ·show Act.put _ (some 53) _ = _
            simp only [Act.put, sT, s0, sS, i64_w, i32_w]
            rfl
           refine qA 34 54 (tf 37 34359738367) ?_
           refine qA 35 55 (tf 37 68719476735) ?_
           refine qA 36 56 (tf 37 137438953471) ?_
           refine done_ (done_of HT_.out (by kernel_rfl)) ?_
           try go_wp2
           go_meet
           case rel => exact ⟨_, (decide (t172 < 0)), (by first | rfl | (simp; done) | (simp [*]; done)), H', ⟨by have := HK1.out; first | omega | exact Nat.le_refl _⟩, ⟨by (with_reducible repeat (first | refine blk_drewN ?_ _ | refine blk_drew ?_ | refine blk_alloc ?_ _)); exact BK168.out⟩, ⟨by repeat (first | (with_reducible first | exact HB.out | apply below_alloc | apply pw_below_drewN | apply below_drew1 | refine below_set ?_ GE168.out) | exact HB.out)⟩⟩
       ·replace c9 := Bool.eq_false_iff.mpr c9
        subst c9
        have H1 : (spec_ProfilesOk.j1 k1 l0 x3_1 true ((rd_T52 l0 x3_1).f0) ((rd_T52 l0 x3_1).f1) ((rd_T52 l0 x3_1).f2)) = some r := by rw [if_neg (show ¬ (false = true) by decide)] at H; exact H
        clear H
        have H := H1
        clear H1
        have H' := Aside0.mk H
        clear H
        try go_wp2
        have n0_ : Aside0 ((((w6.setCell ⟨gb168, 0, none⟩ (.string ((rd_T52 l0 x3_1).f0))).setCell ⟨gb168, 1, none⟩ (.int .i64 ((rd_T52 l0 x3_1).f1))).setCell ⟨gb168, 2, none⟩ (.slice A167_2 ((rd_T52 l0 x3_1).f2).length c167_2)).heap[gb168]? = some (.cells #[.string ((rd_T52 l0 x3_1).f0), .int .i64 ((rd_T52 l0 x3_1).f1), .slice A167_2 ((rd_T52 l0 x3_1).f2).length c167_2] 52 (0, 0))) := ⟨by (with_reducible repeat (first | refine blk_drewN ?_ _ | refine blk_drew ?_ | refine blk_alloc ?_ _)); refine blk_put (cs := #[.string ((rd_T52 l0 x3_1).f0), .int .i64 ((rd_T52 l0 x3_1).f1), .slice none 0 0]) ?_ 2 _ rfl; (with_reducible repeat (first | refine blk_drewN ?_ _ | refine blk_drew ?_ | refine blk_alloc ?_ _)); refine blk_put (cs := #[.string ((rd_T52 l0 x3_1).f0), .int .i64 0, .slice none 0 0]) ?_ 1 _ rfl; (with_reducible repeat (first | refine blk_drewN ?_ _ | refine blk_drew ?_ | refine blk_alloc ?_ _)); refine blk_put (cs := #[.string (⟨#[]⟩ : ByteArray), .int .i64 0, .slice none 0 0]) ?_ 0 _ rfl; (with_reducible repeat (first | refine blk_drewN ?_ _ | refine blk_drew ?_ | refine blk_alloc ?_ _)); exact BK168.out⟩
        have n1_ : Aside0 (Below w.heap.size w (((w6.setCell ⟨gb168, 0, none⟩ (.string ((rd_T52 l0 x3_1).f0))).setCell ⟨gb168, 1, none⟩ (.int .i64 ((rd_T52 l0 x3_1).f1))).setCell ⟨gb168, 2, none⟩ (.slice A167_2 ((rd_T52 l0 x3_1).f2).length c167_2))) := ⟨by repeat (first | (with_reducible first | exact HB.out | apply below_alloc | apply pw_below_drewN | apply below_drew1 | refine below_set ?_ GE168.out) | exact HB.out)⟩
        (try clear BK168)
        (try clear HB)
        generalize (((w6.setCell ⟨gb168, 0, none⟩ (.string ((rd_T52 l0 x3_1).f0))).setCell ⟨gb168, 1, none⟩ (.int .i64 ((rd_T52 l0 x3_1).f1))).setCell ⟨gb168, 2, none⟩ (.slice A167_2 ((rd_T52 l0 x3_1).f2).length c167_2)) = w37 at n0_ n1_ ⊢
        have BK168 := n0_
        have HB := n1_
        clear n0_ n1_
        have n0_ := Aside0.mk (blk_drew BK168.out)
        have n1_ := Aside0.mk (below_drew1 HB.out)
        clear BK168
        clear HB
        have BK168 := n0_
        have HB := n1_
        clear n0_ n1_
        refine start_ (n := 37) (S := fun w' => w'.cell? ⟨gb168, 0, none⟩ = some (.string ((rd_T52 l0 x3_1).f0)) ∧ w'.cell? ⟨gb168, 1, none⟩ = some (.int .i64 ((rd_T52 l0 x3_1).f1)) ∧ w'.cell? ⟨gb168, 2, none⟩ = some (.slice A167_2 ((rd_T52 l0 x3_1).f2).length c167_2)) (ds := []) (tf 37 0) (by kernel_rfl) rfl rfl ⟨(blk_cell BK168.out 0).trans rfl, (blk_cell BK168.out 1).trans rfl, (blk_cell BK168.out 2).trans rfl⟩ (fun hHeld => ?_); refine with_tabW spec_ProfilesOk.tab7 spec_ProfilesOk.bits7 (fun HT_ HW_ => ?_)
        generalize w37.drew = w38 at BK168 HB hHeld ⊢
        refine qA 0 20 (tf 37 1) ?_
        refine qT 1 21 (tf 37 3) ?_
        refine one_ (i := 2) (N := some 22) (tf 37 7) rfl rfl (one_of HT_.out (by kernel_rfl)) (by decide) (fun K hK => ?_)
        refine goes_ Try.func30 (by kernel_rfl) rfl #[.string ((rd_T52 l0 x3_1).f0)] (by rfl) rfl rfl (by (try simp only [List.map_toArray, List.map_cons, List.map_nil]); first | done | rfl | (simp only [List.length_drop, List.length_take]; rfl)) ?_
        with_reducible refine (spec_NameOk.calls k1 ((rd_T52 l0 x3_1).f0) false _ A8.out).mono ?_
        rintro e w' ⟨rfl, ⟨nd, rfl⟩⟩
        refine ⟨_, rfl, ?_⟩
        refine hK.out _ _ ⟨(blk_cell BK168.out 0).trans rfl, (blk_cell BK168.out 1).trans rfl, (blk_cell BK168.out 2).trans rfl⟩ (fun hHeld => ?_)
        clear hK K
        refine norm_ (a' := ?_) ?_ ?_
        rotate_left
        ·show Act.put _ (some 22) _ = _
         simp only [Act.put, sT, s0, sS, i64_w, i32_w]
         rfl
        refine qA 3 23 (tf 37 15) ?_
        refine qA 4 24 (tf 37 31) ?_
        refine qU 5 25 (tf 37 63) ?_
        refine qU 6 26 (tf 37 127) ?_
        refine qU 7 27 (tf 37 255) ?_
        refine qU 8 28 (tf 37 511) ?_
        refine qU 9 29 (tf 37 1023) ?_
        refine qU 10 30 (tf 37 2047) ?_
        refine qU 11 31 (tf 37 4095) ?_
        refine qU 12 32 (tf 37 8191) ?_
        refine qU 13 33 (tf 37 16383) ?_
        refine qU 14 34 (tf 37 32767) ?_
        refine qU 15 35 (tf 37 65535) ?_
        refine qU 16 36 (tf 37 131071) ?_
        refine qU 17 37 (tf 37 262143) ?_
        refine qA 18 38 (tf 37 524287) ?_
        refine qA 19 39 (tf 37 1048575) ?_
        refine qU 20 40 (tf 37 2097151) ?_
        refine qU 21 41 (tf 37 4194303) ?_
        refine qU 22 42 (tf 37 8388607) ?_
        refine qU 23 43 (tf 37 16777215) ?_
        refine qA 24 44 (tf 37 33554431) ?_
        refine qA 25 45 (tf 37 67108863) ?_
        refine qU 26 46 (tf 37 134217727) ?_
        refine qU 27 47 (tf 37 268435455) ?_
        refine qU 28 48 (tf 37 536870911) ?_
        refine qU 29 49 (tf 37 1073741823) ?_
        refine qU 30 50 (tf 37 2147483647) ?_
        refine qU 31 51 (tf 37 4294967295) ?_
        refine qU 32 52 (tf 37 8589934591) ?_
        refine qU 33 53 (tf 37 17179869183) ?_
        refine qU 34 54 (tf 37 34359738367) ?_
        refine qU 35 55 (tf 37 68719476735) ?_
        refine qA 36 56 (tf 37 137438953471) ?_
        refine done_ (done_of HT_.out (by kernel_rfl)) ?_
        try go_wp2
        go_meet
        case rel => exact ⟨_, (true), (by first | rfl | (simp; done) | (simp [*]; done)), H', ⟨by have := HK1.out; first | omega | exact Nat.le_refl _⟩, ⟨by (with_reducible repeat (first | refine blk_drewN ?_ _ | refine blk_drew ?_ | refine blk_alloc ?_ _)); exact BK168.out⟩, ⟨by repeat (first | (with_reducible first | exact HB.out | apply below_alloc | apply pw_below_drewN | apply below_drew1 | refine below_set ?_ GE168.out) | exact HB.out)⟩⟩
      case rest =>
       clear HC5
       try clear c1
       try clear p2
       try clear c3
       try clear c9
       try clear c16
       try clear c30
       try clear c30b0
       try clear c30b1
       try clear c31
       obtain ⟨kq, x56_4, rfl, HA, HJ4, BK168, HB⟩ := hcut
       cases kq with
       | zero => exact absurd HA.out (by simp [spec_ProfilesOk.j1])
       | succ kj4 =>
        have H := HA.out
        clear HA
        simp only [spec_ProfilesOk.j1] at H
        by_cases c39 : x56_4 = true
        ·subst c39
         have H1 : (some false) = some r := by rw [if_pos rfl] at H; exact H
         clear H
         have H := H1
         clear H1
         obtain rfl := Option.some.inj H
         go_wp2
         go_ret
         exact ⟨by first | rfl | (simp [errW_none, errW_some] <;> rfl) | (simp [*, errW_none, errW_some] <;> rfl), by repeat (first | (with_reducible first | exact HB.out | apply below_alloc | apply pw_below_drewN | apply below_drew1 | refine below_set ?_ GE168.out) | exact HB.out)⟩
        ·replace c39 := Bool.eq_false_iff.mpr c39
         subst c39
         have H1 : (spec_ProfilesOk.l1 kj4 l0 x3_1 0 ((rd_T52 l0 x3_1).f0) ((rd_T52 l0 x3_1).f1) ((rd_T52 l0 x3_1).f2)) = some r := by rw [if_neg (show ¬ (false = true) by decide)] at H; exact H
         clear H
         have H := H1
         clear H1
         have H' := Aside0.mk H
         clear H
         go_wp2
         go_loopg [5] kj4 (fun kq v5 w' => ∃ (x5_3 : Int), v5 = .int .i64 x5_3 ∧ Aside0 (spec_ProfilesOk.l1 kq l0 x3_1 x5_3 ((rd_T52 l0 x3_1).f0) ((rd_T52 l0 x3_1).f1) ((rd_T52 l0 x3_1).f2) = some r) ∧ Aside0 (kq ≤ kj4) ∧ Aside0 (w'.heap[gb168]? = some (.cells #[.string ((rd_T52 l0 x3_1).f0), .int .i64 ((rd_T52 l0 x3_1).f1), (.slice A167_2 ((rd_T52 l0 x3_1).f2).length c167_2)] 52 (0, 0))) ∧ Aside0 (Below w.heap.size w w'))
         case atStart => exact ⟨(0), (by first | rfl | (simp; done) | (simp [*]; done)), H', ⟨Nat.le_refl _⟩, ⟨by (with_reducible repeat (first | refine blk_drewN ?_ _ | refine blk_drew ?_ | refine blk_alloc ?_ _)); exact BK168.out⟩, ⟨by repeat (first | (with_reducible first | exact HB.out | apply below_alloc | apply pw_below_drewN | apply below_drew1 | refine below_set ?_ GE168.out) | exact HB.out)⟩⟩
         case round =>
          clear H'
          try clear c1
          try clear p2
          try clear c3
          try clear c9
          try clear c16
          try clear c30
          try clear c30b0
          try clear c30b1
          try clear c31
          try clear c39
          try clear p2
          obtain ⟨x5_3, rfl, HA, HK3, BK168, HB⟩ := hrel
          cases gk with
          | zero => exact absurd HA.out (by simp [spec_ProfilesOk.l1])
          | succ k3 =>
           have H := HA.out
           clear HA
           simp only [spec_ProfilesOk.l1] at H
           by_cases c40 : x5_3 < (((rd_T52 l0 x3_1).f2).length : Int)
           ·rw [if_pos c40] at H
            have c40b0 : decide (x5_3 < (((rd_T52 l0 x3_1).f2).length : Int)) = true := decide_eq_true c40
            clear c40
            by_cases c41 : 0 ≤ x5_3
            ·rw [if_pos c41] at H
             have c41b0 : decide (0 ≤ x5_3) = true := decide_eq_true c41
             clear c41
             by_cases c42 : ((rd_T56 ((rd_T52 l0 x3_1).f2) x5_3).f0) < 1
             ·rw [if_pos c42] at H
              have c42b0 : decide (((rd_T56 ((rd_T52 l0 x3_1).f2) x5_3).f0) < 1) = true := decide_eq_true c42
              clear c42
              obtain rfl := Option.some.inj H
              have hcz43_0 : wr.cell? ⟨gb168, 0, none⟩ = some (.string ((rd_T52 l0 x3_1).f0)) := (blk_cell BK168.out 0).trans rfl
              have hcz43_1 : wr.cell? ⟨gb168, 1, none⟩ = some (.int .i64 ((rd_T52 l0 x3_1).f1)) := (blk_cell BK168.out 1).trans rfl
              have hcz43_2 : wr.cell? ⟨gb168, 2, none⟩ = some (.slice A167_2 ((rd_T52 l0 x3_1).f2).length c167_2) := (blk_cell BK168.out 2).trans rfl
              have hfz43_0 := blk_frozen BK168.out 0
              have hfz43_1 := blk_frozen BK168.out 1
              have hfz43_2 := blk_frozen BK168.out 2
              have p173 : 0 ≤ (x5_3 : Int) := of_decide_eq_true (by first | (with_reducible assumption) | assumption)
              have q173 : x5_3 < (((rd_T52 l0 x3_1).f2).length : Int) := of_decide_eq_true (by first | (with_reducible assumption) | assumption)
              obtain ⟨ad173, e173, hx173_0, hx173_1⟩ := at_T56 HR167_2.out x5_3 p173 q173
              cases e173
              try (replace hx173_0 := (HB.out.cell (World.block_lt_of_cell? w _ hx173_0)).trans hx173_0)
              try (replace hx173_1 := (HB.out.cell (World.block_lt_of_cell? w _ hx173_1)).trans hx173_1)
              replace p173 := eq_true p173
              replace q173 := eq_true q173
              try go_wp2_with (first | ((with_reducible refine gate_dst (N := 6) rfl ?_); (try (refine gate_guard (by rfl) ?_; dsimp only)); refine box_event ?hg (N := 6) ?hd (cs := #[.int .i64 0, .string (⟨#[]⟩ : ByteArray)]) (t := 56) ?hr ?_; (case hd => rfl); (case hg => rfl); (case hr => first | (go_simp; done) | (go_simp; rfl)); intro gb174 hg w44 hbox hb; have n0_ := Aside0.mk (blk_below (g := gb168) (qK BK168.out) hb); have n1_ := Aside0.mk (below_step (qG GE168.out) hb); have n2_ := Aside0.mk (hbox); have n3_ := Aside0.mk ((by rw [hg]; exact (below_size (qG GE168.out)) : w.heap.size ≤ gb174)); have n4_ := Aside0.mk ((by rw [hg]; exact (below_size (qG GE168.out)) : w.heap.size ≤ gb174)); have n5_ := Aside0.mk ((by rw [hg]; exact Nat.ne_of_lt (blk_lt (g := gb168) (qK BK168.out)) : gb168 ≠ gb174)); have n6_ := Aside0.mk ((by rw [hg]; exact Nat.ne_of_gt (blk_lt (g := gb168) (qK BK168.out)) : gb174 ≠ gb168)); clear BK168; clear HB; have BK168 := n0_; have HB := n1_; have BK174 := n2_; have GW174 := n3_; have GE174 := n4_; have NB168_174 := n5_; have NB174_168 := n6_; clear n0_ n1_ n2_ n3_ n4_ n5_ n6_; clear hb hbox hg; have hnb45 := NB174_168.out; have hnc45 := NB168_174.out; have hcz46_0 : w44.cell? ⟨gb174, 0, none⟩ = some (.int .i64 0) := (blk_cell BK174.out 0).trans rfl; have hcz46_1 : w44.cell? ⟨gb174, 1, none⟩ = some (.string (⟨#[]⟩ : ByteArray)) := (blk_cell BK174.out 1).trans rfl; have hfz46_0 := blk_frozen BK174.out 0; have hfz46_1 := blk_frozen BK174.out 1))
              have n0_ : Aside0 (((w44.setCell ⟨gb174, 0, none⟩ (.int .i64 ((rd_T56 ((rd_T52 l0 x3_1).f2) x5_3).f0))).setCell ⟨gb174, 1, none⟩ (.string ((rd_T56 ((rd_T52 l0 x3_1).f2) x5_3).f1))).heap[gb168]? = some (.cells #[.string ((rd_T52 l0 x3_1).f0), .int .i64 ((rd_T52 l0 x3_1).f1), .slice (some ad173) ((rd_T52 l0 x3_1).f2).length c167_2] 52 (0, 0))) := ⟨by (with_reducible repeat (first | refine blk_drewN ?_ _ | refine blk_drew ?_ | refine blk_alloc ?_ _)); refine blk_far ?_ NB168_174.out _; (with_reducible repeat (first | refine blk_drewN ?_ _ | refine blk_drew ?_ | refine blk_alloc ?_ _)); refine blk_far ?_ NB168_174.out _; (with_reducible repeat (first | refine blk_drewN ?_ _ | refine blk_drew ?_ | refine blk_alloc ?_ _)); exact BK168.out⟩
              have n1_ : Aside0 (((w44.setCell ⟨gb174, 0, none⟩ (.int .i64 ((rd_T56 ((rd_T52 l0 x3_1).f2) x5_3).f0))).setCell ⟨gb174, 1, none⟩ (.string ((rd_T56 ((rd_T52 l0 x3_1).f2) x5_3).f1))).heap[gb174]? = some (.cells #[.int .i64 ((rd_T56 ((rd_T52 l0 x3_1).f2) x5_3).f0), .string ((rd_T56 ((rd_T52 l0 x3_1).f2) x5_3).f1)] 56 (0, 0))) := ⟨by (with_reducible repeat (first | refine blk_drewN ?_ _ | refine blk_drew ?_ | refine blk_alloc ?_ _)); refine blk_put (cs := #[.int .i64 ((rd_T56 ((rd_T52 l0 x3_1).f2) x5_3).f0), .string (⟨#[]⟩ : ByteArray)]) ?_ 1 _ rfl; (with_reducible repeat (first | refine blk_drewN ?_ _ | refine blk_drew ?_ | refine blk_alloc ?_ _)); refine blk_put (cs := #[.int .i64 0, .string (⟨#[]⟩ : ByteArray)]) ?_ 0 _ rfl; (with_reducible repeat (first | refine blk_drewN ?_ _ | refine blk_drew ?_ | refine blk_alloc ?_ _)); exact BK174.out⟩
              have n2_ : Aside0 (Below w.heap.size w ((w44.setCell ⟨gb174, 0, none⟩ (.int .i64 ((rd_T56 ((rd_T52 l0 x3_1).f2) x5_3).f0))).setCell ⟨gb174, 1, none⟩ (.string ((rd_T56 ((rd_T52 l0 x3_1).f2) x5_3).f1)))) := ⟨by repeat (first | (with_reducible first | exact HB.out | apply below_alloc | apply pw_below_drewN | apply below_drew1 | refine below_set ?_ GE168.out | refine below_set ?_ GE174.out) | exact HB.out)⟩
              (try clear BK168)
              (try clear BK174)
              (try clear HB)
              generalize ((w44.setCell ⟨gb174, 0, none⟩ (.int .i64 ((rd_T56 ((rd_T52 l0 x3_1).f2) x5_3).f0))).setCell ⟨gb174, 1, none⟩ (.string ((rd_T56 ((rd_T52 l0 x3_1).f2) x5_3).f1))) = w47 at n0_ n1_ n2_ ⊢
              have BK168 := n0_
              have BK174 := n1_
              have HB := n2_
              clear n0_ n1_ n2_
              have n0_ := Aside0.mk (blk_drew BK168.out)
              have n1_ := Aside0.mk (blk_drew BK174.out)
              have n2_ := Aside0.mk (below_drew1 HB.out)
              clear BK168
              clear BK174
              clear HB
              have BK168 := n0_
              have BK174 := n1_
              have HB := n2_
              clear n0_ n1_ n2_
              refine start_ (n := 30) (S := fun w' => w'.cell? ⟨gb174, 0, none⟩ = some (.int .i64 ((rd_T56 ((rd_T52 l0 x3_1).f2) x5_3).f0)) ∧ w'.cell? ⟨gb174, 1, none⟩ = some (.string ((rd_T56 ((rd_T52 l0 x3_1).f2) x5_3).f1))) (ds := []) (tf 30 0) (by kernel_rfl) rfl rfl ⟨(blk_cell BK174.out 0).trans rfl, (blk_cell BK174.out 1).trans rfl⟩ (fun hHeld => ?_); refine with_tabW spec_ProfilesOk.tab13 spec_ProfilesOk.bits13 (fun HT_ HW_ => ?_)
              generalize w47.drew = w48 at BK168 BK174 HB hHeld ⊢
              refine qA 0 69 (tf 30 1) ?_
              refine qT 1 70 (tf 30 3) ?_
              refine qA 2 71 (tf 30 7) ?_
              refine qA 3 72 (tf 30 15) ?_
              refine qU 4 73 (tf 30 31) ?_
              refine qU 5 74 (tf 30 63) ?_
              refine qU 6 75 (tf 30 127) ?_
              refine qA 7 76 (tf 30 255) ?_
              refine qA 8 77 (tf 30 511) ?_
              refine qU 9 78 (tf 30 1023) ?_
              refine qU 10 79 (tf 30 2047) ?_
              refine qU 11 80 (tf 30 4095) ?_
              refine qU 12 81 (tf 30 8191) ?_
              refine qU 13 82 (tf 30 16383) ?_
              refine qU 14 83 (tf 30 32767) ?_
              refine qU 15 84 (tf 30 65535) ?_
              refine qU 16 85 (tf 30 131071) ?_
              refine qU 17 86 (tf 30 262143) ?_
              refine qU 18 87 (tf 30 524287) ?_
              refine qU 19 88 (tf 30 1048575) ?_
              refine qU 20 89 (tf 30 2097151) ?_
              refine qU 21 90 (tf 30 4194303) ?_
              refine qU 22 91 (tf 30 8388607) ?_
              refine qA 23 92 (tf 30 16777215) ?_
              refine qA 24 93 (tf 30 33554431) ?_
              refine qU 25 94 (tf 30 67108863) ?_
              refine qU 26 95 (tf 30 134217727) ?_
              refine qU 27 96 (tf 30 268435455) ?_
              refine qU 28 97 (tf 30 536870911) ?_
              refine qA 29 98 (tf 30 1073741823) ?_
              refine done_ (done_of HT_.out (by kernel_rfl)) ?_
              try go_wp2
              go_ret
              exact ⟨by first | rfl | (simp [errW_none, errW_some] <;> rfl) | (simp [*, errW_none, errW_some] <;> rfl), by repeat (first | (with_reducible first | exact HB.out | apply below_alloc | apply pw_below_drewN | apply below_drew1 | refine below_set ?_ GE168.out | refine below_set ?_ GE174.out) | exact HB.out)⟩
             ·rw [if_neg c42] at H
              have c42b0 : decide (((rd_T56 ((rd_T52 l0 x3_1).f2) x5_3).f0) < 1) = false := decide_eq_false c42
              clear c42
              by_cases c49 : ((rd_T56 ((rd_T52 l0 x3_1).f2) x5_3).f0) > 9007199254740992
              ·rw [if_pos c49] at H
               have c49b0 : decide (9007199254740992 < ((rd_T56 ((rd_T52 l0 x3_1).f2) x5_3).f0)) = true := decide_eq_true c49
               clear c49
               obtain rfl := Option.some.inj H
               have hcz50_0 : wr.cell? ⟨gb168, 0, none⟩ = some (.string ((rd_T52 l0 x3_1).f0)) := (blk_cell BK168.out 0).trans rfl
               have hcz50_1 : wr.cell? ⟨gb168, 1, none⟩ = some (.int .i64 ((rd_T52 l0 x3_1).f1)) := (blk_cell BK168.out 1).trans rfl
               have hcz50_2 : wr.cell? ⟨gb168, 2, none⟩ = some (.slice A167_2 ((rd_T52 l0 x3_1).f2).length c167_2) := (blk_cell BK168.out 2).trans rfl
               have hfz50_0 := blk_frozen BK168.out 0
               have hfz50_1 := blk_frozen BK168.out 1
               have hfz50_2 := blk_frozen BK168.out 2
               have p173 : 0 ≤ (x5_3 : Int) := of_decide_eq_true (by first | (with_reducible assumption) | assumption)
               have q173 : x5_3 < (((rd_T52 l0 x3_1).f2).length : Int) := of_decide_eq_true (by first | (with_reducible assumption) | assumption)
               obtain ⟨ad173, e173, hx173_0, hx173_1⟩ := at_T56 HR167_2.out x5_3 p173 q173
               cases e173
               try (replace hx173_0 := (HB.out.cell (World.block_lt_of_cell? w _ hx173_0)).trans hx173_0)
               try (replace hx173_1 := (HB.out.cell (World.block_lt_of_cell? w _ hx173_1)).trans hx173_1)
               replace p173 := eq_true p173
               replace q173 := eq_true q173
               try go_wp2_with (first | ((with_reducible refine gate_dst (N := 6) rfl ?_); (try (refine gate_guard (by rfl) ?_; dsimp only)); refine box_event ?hg (N := 6) ?hd (cs := #[.int .i64 0, .string (⟨#[]⟩ : ByteArray)]) (t := 56) ?hr ?_; (case hd => rfl); (case hg => rfl); (case hr => first | (go_simp; done) | (go_simp; rfl)); intro gb174 hg w51 hbox hb; have n0_ := Aside0.mk (blk_below (g := gb168) (qK BK168.out) hb); have n1_ := Aside0.mk (below_step (qG GE168.out) hb); have n2_ := Aside0.mk (hbox); have n3_ := Aside0.mk ((by rw [hg]; exact (below_size (qG GE168.out)) : w.heap.size ≤ gb174)); have n4_ := Aside0.mk ((by rw [hg]; exact (below_size (qG GE168.out)) : w.heap.size ≤ gb174)); have n5_ := Aside0.mk ((by rw [hg]; exact Nat.ne_of_lt (blk_lt (g := gb168) (qK BK168.out)) : gb168 ≠ gb174)); have n6_ := Aside0.mk ((by rw [hg]; exact Nat.ne_of_gt (blk_lt (g := gb168) (qK BK168.out)) : gb174 ≠ gb168)); clear BK168; clear HB; have BK168 := n0_; have HB := n1_; have BK174 := n2_; have GW174 := n3_; have GE174 := n4_; have NB168_174 := n5_; have NB174_168 := n6_; clear n0_ n1_ n2_ n3_ n4_ n5_ n6_; clear hb hbox hg; have hnb52 := NB174_168.out; have hnc52 := NB168_174.out; have hcz53_0 : w51.cell? ⟨gb174, 0, none⟩ = some (.int .i64 0) := (blk_cell BK174.out 0).trans rfl; have hcz53_1 : w51.cell? ⟨gb174, 1, none⟩ = some (.string (⟨#[]⟩ : ByteArray)) := (blk_cell BK174.out 1).trans rfl; have hfz53_0 := blk_frozen BK174.out 0; have hfz53_1 := blk_frozen BK174.out 1))
               have n0_ : Aside0 (((w51.setCell ⟨gb174, 0, none⟩ (.int .i64 ((rd_T56 ((rd_T52 l0 x3_1).f2) x5_3).f0))).setCell ⟨gb174, 1, none⟩ (.string ((rd_T56 ((rd_T52 l0 x3_1).f2) x5_3).f1))).heap[gb168]? = some (.cells #[.string ((rd_T52 l0 x3_1).f0), .int .i64 ((rd_T52 l0 x3_1).f1), .slice (some ad173) ((rd_T52 l0 x3_1).f2).length c167_2] 52 (0, 0))) := ⟨by (with_reducible repeat (first | refine blk_drewN ?_ _ | refine blk_drew ?_ | refine blk_alloc ?_ _)); refine blk_far ?_ NB168_174.out _; (with_reducible repeat (first | refine blk_drewN ?_ _ | refine blk_drew ?_ | refine blk_alloc ?_ _)); refine blk_far ?_ NB168_174.out _; (with_reducible repeat (first | refine blk_drewN ?_ _ | refine blk_drew ?_ | refine blk_alloc ?_ _)); exact BK168.out⟩
               have n1_ : Aside0 (((w51.setCell ⟨gb174, 0, none⟩ (.int .i64 ((rd_T56 ((rd_T52 l0 x3_1).f2) x5_3).f0))).setCell ⟨gb174, 1, none⟩ (.string ((rd_T56 ((rd_T52 l0 x3_1).f2) x5_3).f1))).heap[gb174]? = some (.cells #[.int .i64 ((rd_T56 ((rd_T52 l0 x3_1).f2) x5_3).f0), .string ((rd_T56 ((rd_T52 l0 x3_1).f2) x5_3).f1)] 56 (0, 0))) := ⟨by (with_reducible repeat (first | refine blk_drewN ?_ _ | refine blk_drew ?_ | refine blk_alloc ?_ _)); refine blk_put (cs := #[.int .i64 ((rd_T56 ((rd_T52 l0 x3_1).f2) x5_3).f0), .string (⟨#[]⟩ : ByteArray)]) ?_ 1 _ rfl; (with_reducible repeat (first | refine blk_drewN ?_ _ | refine blk_drew ?_ | refine blk_alloc ?_ _)); refine blk_put (cs := #[.int .i64 0, .string (⟨#[]⟩ : ByteArray)]) ?_ 0 _ rfl; (with_reducible repeat (first | refine blk_drewN ?_ _ | refine blk_drew ?_ | refine blk_alloc ?_ _)); exact BK174.out⟩
               have n2_ : Aside0 (Below w.heap.size w ((w51.setCell ⟨gb174, 0, none⟩ (.int .i64 ((rd_T56 ((rd_T52 l0 x3_1).f2) x5_3).f0))).setCell ⟨gb174, 1, none⟩ (.string ((rd_T56 ((rd_T52 l0 x3_1).f2) x5_3).f1)))) := ⟨by repeat (first | (with_reducible first | exact HB.out | apply below_alloc | apply pw_below_drewN | apply below_drew1 | refine below_set ?_ GE168.out | refine below_set ?_ GE174.out) | exact HB.out)⟩
               (try clear BK168)
               (try clear BK174)
               (try clear HB)
               generalize ((w51.setCell ⟨gb174, 0, none⟩ (.int .i64 ((rd_T56 ((rd_T52 l0 x3_1).f2) x5_3).f0))).setCell ⟨gb174, 1, none⟩ (.string ((rd_T56 ((rd_T52 l0 x3_1).f2) x5_3).f1))) = w54 at n0_ n1_ n2_ ⊢
               have BK168 := n0_
               have BK174 := n1_
               have HB := n2_
               clear n0_ n1_ n2_
               have n0_ := Aside0.mk (blk_drew BK168.out)
               have n1_ := Aside0.mk (blk_drew BK174.out)
               have n2_ := Aside0.mk (below_drew1 HB.out)
               clear BK168
               clear BK174
               clear HB
               have BK168 := n0_
               have BK174 := n1_
               have HB := n2_
               clear n0_ n1_ n2_
               refine start_ (n := 30) (S := fun w' => w'.cell? ⟨gb174, 0, none⟩ = some (.int .i64 ((rd_T56 ((rd_T52 l0 x3_1).f2) x5_3).f0)) ∧ w'.cell? ⟨gb174, 1, none⟩ = some (.string ((rd_T56 ((rd_T52 l0 x3_1).f2) x5_3).f1))) (ds := []) (tf 30 0) (by kernel_rfl) rfl rfl ⟨(blk_cell BK174.out 0).trans rfl, (blk_cell BK174.out 1).trans rfl⟩ (fun hHeld => ?_); refine with_tabW spec_ProfilesOk.tab13 spec_ProfilesOk.bits13 (fun HT_ HW_ => ?_)
               generalize w54.drew = w55 at BK168 BK174 HB hHeld ⊢
               refine qA 0 69 (tf 30 1) ?_
               refine qT 1 70 (tf 30 3) ?_
               refine qA 2 71 (tf 30 7) ?_
               refine qA 3 72 (tf 30 15) ?_
               refine qA 4 73 (tf 30 31) ?_
               refine qT 5 74 (tf 30 63) ?_
               refine qA 6 75 (tf 30 127) ?_
               refine qA 7 76 (tf 30 255) ?_
               refine qA 8 77 (tf 30 511) ?_
               refine qU 9 78 (tf 30 1023) ?_
               refine qU 10 79 (tf 30 2047) ?_
               refine qU 11 80 (tf 30 4095) ?_
               refine qU 12 81 (tf 30 8191) ?_
               refine qU 13 82 (tf 30 16383) ?_
               refine qU 14 83 (tf 30 32767) ?_
               refine qU 15 84 (tf 30 65535) ?_
               refine qU 16 85 (tf 30 131071) ?_
               refine qU 17 86 (tf 30 262143) ?_
               refine qU 18 87 (tf 30 524287) ?_
               refine qU 19 88 (tf 30 1048575) ?_
               refine qU 20 89 (tf 30 2097151) ?_
               refine qU 21 90 (tf 30 4194303) ?_
               refine qU 22 91 (tf 30 8388607) ?_
               refine qA 23 92 (tf 30 16777215) ?_
               refine qA 24 93 (tf 30 33554431) ?_
               refine qU 25 94 (tf 30 67108863) ?_
               refine qU 26 95 (tf 30 134217727) ?_
               refine qU 27 96 (tf 30 268435455) ?_
               refine qU 28 97 (tf 30 536870911) ?_
               refine qA 29 98 (tf 30 1073741823) ?_
               refine done_ (done_of HT_.out (by kernel_rfl)) ?_
               try go_wp2
               go_ret
               exact ⟨by first | rfl | (simp [errW_none, errW_some] <;> rfl) | (simp [*, errW_none, errW_some] <;> rfl), by repeat (first | (with_reducible first | exact HB.out | apply below_alloc | apply pw_below_drewN | apply below_drew1 | refine below_set ?_ GE168.out | refine below_set ?_ GE174.out) | exact HB.out)⟩
              ·rw [if_neg c49] at H
               have c49b0 : decide (9007199254740992 < ((rd_T56 ((rd_T52 l0 x3_1).f2) x5_3).f0)) = false := decide_eq_false c49
               clear c49
               by_cases c56 : x5_3 > 0
               ·rw [if_pos c56] at H
                have c56b0 : decide (0 < x5_3) = true := decide_eq_true c56
                clear c56
                obtain ⟨ji57, hji57⟩ : ∃ j_ : Int, (wrap64 (x5_3 - 1)) = j_ := ⟨_, rfl⟩
                replace H : (if 0 ≤ (ji57) then (if (ji57) < (((rd_T52 l0 x3_1).f2).length : Int) then (if ((rd_T56 ((rd_T52 l0 x3_1).f2) (ji57)).f0) ≥ ((rd_T56 ((rd_T52 l0 x3_1).f2) x5_3).f0) then (some false) else ((spec_AddressOk.f k3 ((rd_T56 ((rd_T52 l0 x3_1).f2) x5_3).f1)).bind fun t176 => (if t176 = true then (spec_ProfilesOk.l1 k3 l0 x3_1 (wrap64 (x5_3 + 1)) ((rd_T52 l0 x3_1).f0) ((rd_T52 l0 x3_1).f1) ((rd_T52 l0 x3_1).f2)) else (some false)))) else (none)) else (none)) = some r := by first | (rw [hji57] at H; exact H) | (simp only [hji57] at H ⊢; exact H)
                have hji57w : (IntKind.i64.wrap (x5_3 - 1)) = ji57 := (i64_w _).trans hji57
                by_cases c58 : 0 ≤ (ji57)
                ·rw [if_pos c58] at H
                 have c58b0 : decide (0 ≤ (ji57)) = true := decide_eq_true c58
                 clear c58
                 by_cases c59 : (ji57) < (((rd_T52 l0 x3_1).f2).length : Int)
                 ·rw [if_pos c59] at H
                  have c59b0 : decide ((ji57) < (((rd_T52 l0 x3_1).f2).length : Int)) = true := decide_eq_true c59
                  clear c59
                  by_cases c60 : ((rd_T56 ((rd_T52 l0 x3_1).f2) (ji57)).f0) ≥ ((rd_T56 ((rd_T52 l0 x3_1).f2) x5_3).f0)
                  ·rw [if_pos c60] at H
                   have c60b0 : decide (((rd_T56 ((rd_T52 l0 x3_1).f2) x5_3).f0) ≤ ((rd_T56 ((rd_T52 l0 x3_1).f2) (ji57)).f0)) = true := decide_eq_true c60
                   clear c60
                   obtain rfl := Option.some.inj H
                   have hcz61_0 : wr.cell? ⟨gb168, 0, none⟩ = some (.string ((rd_T52 l0 x3_1).f0)) := (blk_cell BK168.out 0).trans rfl
                   have hcz61_1 : wr.cell? ⟨gb168, 1, none⟩ = some (.int .i64 ((rd_T52 l0 x3_1).f1)) := (blk_cell BK168.out 1).trans rfl
                   have hcz61_2 : wr.cell? ⟨gb168, 2, none⟩ = some (.slice A167_2 ((rd_T52 l0 x3_1).f2).length c167_2) := (blk_cell BK168.out 2).trans rfl
                   have hfz61_0 := blk_frozen BK168.out 0
                   have hfz61_1 := blk_frozen BK168.out 1
                   have hfz61_2 := blk_frozen BK168.out 2
                   have p173 : 0 ≤ (x5_3 : Int) := of_decide_eq_true (by first | (with_reducible assumption) | assumption)
                   have q173 : x5_3 < (((rd_T52 l0 x3_1).f2).length : Int) := of_decide_eq_true (by first | (with_reducible assumption) | assumption)
                   obtain ⟨ad173, e173, hx173_0, hx173_1⟩ := at_T56 HR167_2.out x5_3 p173 q173
                   cases e173
                   try (replace hx173_0 := (HB.out.cell (World.block_lt_of_cell? w _ hx173_0)).trans hx173_0)
                   try (replace hx173_1 := (HB.out.cell (World.block_lt_of_cell? w _ hx173_1)).trans hx173_1)
                   replace p173 := eq_true p173
                   replace q173 := eq_true q173
                   try go_wp2_with (first | ((with_reducible refine gate_dst (N := 6) rfl ?_); (try (refine gate_guard (by rfl) ?_; dsimp only)); refine box_event ?hg (N := 6) ?hd (cs := #[.int .i64 0, .string (⟨#[]⟩ : ByteArray)]) (t := 56) ?hr ?_; (case hd => rfl); (case hg => rfl); (case hr => first | (go_simp; done) | (go_simp; rfl)); intro gb174 hg w62 hbox hb; have n0_ := Aside0.mk (blk_below (g := gb168) (qK BK168.out) hb); have n1_ := Aside0.mk (below_step (qG GE168.out) hb); have n2_ := Aside0.mk (hbox); have n3_ := Aside0.mk ((by rw [hg]; exact (below_size (qG GE168.out)) : w.heap.size ≤ gb174)); have n4_ := Aside0.mk ((by rw [hg]; exact (below_size (qG GE168.out)) : w.heap.size ≤ gb174)); have n5_ := Aside0.mk ((by rw [hg]; exact Nat.ne_of_lt (blk_lt (g := gb168) (qK BK168.out)) : gb168 ≠ gb174)); have n6_ := Aside0.mk ((by rw [hg]; exact Nat.ne_of_gt (blk_lt (g := gb168) (qK BK168.out)) : gb174 ≠ gb168)); clear BK168; clear HB; have BK168 := n0_; have HB := n1_; have BK174 := n2_; have GW174 := n3_; have GE174 := n4_; have NB168_174 := n5_; have NB174_168 := n6_; clear n0_ n1_ n2_ n3_ n4_ n5_ n6_; clear hb hbox hg; have hnb63 := NB174_168.out; have hnc63 := NB168_174.out; have hcz64_0 : w62.cell? ⟨gb174, 0, none⟩ = some (.int .i64 0) := (blk_cell BK174.out 0).trans rfl; have hcz64_1 : w62.cell? ⟨gb174, 1, none⟩ = some (.string (⟨#[]⟩ : ByteArray)) := (blk_cell BK174.out 1).trans rfl; have hfz64_0 := blk_frozen BK174.out 0; have hfz64_1 := blk_frozen BK174.out 1))
                   have n0_ : Aside0 (((w62.setCell ⟨gb174, 0, none⟩ (.int .i64 ((rd_T56 ((rd_T52 l0 x3_1).f2) x5_3).f0))).setCell ⟨gb174, 1, none⟩ (.string ((rd_T56 ((rd_T52 l0 x3_1).f2) x5_3).f1))).heap[gb168]? = some (.cells #[.string ((rd_T52 l0 x3_1).f0), .int .i64 ((rd_T52 l0 x3_1).f1), .slice (some ad173) ((rd_T52 l0 x3_1).f2).length c167_2] 52 (0, 0))) := ⟨by (with_reducible repeat (first | refine blk_drewN ?_ _ | refine blk_drew ?_ | refine blk_alloc ?_ _)); refine blk_far ?_ NB168_174.out _; (with_reducible repeat (first | refine blk_drewN ?_ _ | refine blk_drew ?_ | refine blk_alloc ?_ _)); refine blk_far ?_ NB168_174.out _; (with_reducible repeat (first | refine blk_drewN ?_ _ | refine blk_drew ?_ | refine blk_alloc ?_ _)); exact BK168.out⟩
                   have n1_ : Aside0 (((w62.setCell ⟨gb174, 0, none⟩ (.int .i64 ((rd_T56 ((rd_T52 l0 x3_1).f2) x5_3).f0))).setCell ⟨gb174, 1, none⟩ (.string ((rd_T56 ((rd_T52 l0 x3_1).f2) x5_3).f1))).heap[gb174]? = some (.cells #[.int .i64 ((rd_T56 ((rd_T52 l0 x3_1).f2) x5_3).f0), .string ((rd_T56 ((rd_T52 l0 x3_1).f2) x5_3).f1)] 56 (0, 0))) := ⟨by (with_reducible repeat (first | refine blk_drewN ?_ _ | refine blk_drew ?_ | refine blk_alloc ?_ _)); refine blk_put (cs := #[.int .i64 ((rd_T56 ((rd_T52 l0 x3_1).f2) x5_3).f0), .string (⟨#[]⟩ : ByteArray)]) ?_ 1 _ rfl; (with_reducible repeat (first | refine blk_drewN ?_ _ | refine blk_drew ?_ | refine blk_alloc ?_ _)); refine blk_put (cs := #[.int .i64 0, .string (⟨#[]⟩ : ByteArray)]) ?_ 0 _ rfl; (with_reducible repeat (first | refine blk_drewN ?_ _ | refine blk_drew ?_ | refine blk_alloc ?_ _)); exact BK174.out⟩
                   have n2_ : Aside0 (Below w.heap.size w ((w62.setCell ⟨gb174, 0, none⟩ (.int .i64 ((rd_T56 ((rd_T52 l0 x3_1).f2) x5_3).f0))).setCell ⟨gb174, 1, none⟩ (.string ((rd_T56 ((rd_T52 l0 x3_1).f2) x5_3).f1)))) := ⟨by repeat (first | (with_reducible first | exact HB.out | apply below_alloc | apply pw_below_drewN | apply below_drew1 | refine below_set ?_ GE168.out | refine below_set ?_ GE174.out) | exact HB.out)⟩
                   (try clear BK168)
                   (try clear BK174)
                   (try clear HB)
                   generalize ((w62.setCell ⟨gb174, 0, none⟩ (.int .i64 ((rd_T56 ((rd_T52 l0 x3_1).f2) x5_3).f0))).setCell ⟨gb174, 1, none⟩ (.string ((rd_T56 ((rd_T52 l0 x3_1).f2) x5_3).f1))) = w65 at n0_ n1_ n2_ ⊢
                   have BK168 := n0_
                   have BK174 := n1_
                   have HB := n2_
                   clear n0_ n1_ n2_
                   have n0_ := Aside0.mk (blk_drew BK168.out)
                   have n1_ := Aside0.mk (blk_drew BK174.out)
                   have n2_ := Aside0.mk (below_drew1 HB.out)
                   clear BK168
                   clear BK174
                   clear HB
                   have BK168 := n0_
                   have BK174 := n1_
                   have HB := n2_
                   clear n0_ n1_ n2_
                   have p175 : 0 ≤ ((ji57) : Int) := of_decide_eq_true (by first | (with_reducible assumption) | assumption)
                   have q175 : (ji57) < (((rd_T52 l0 x3_1).f2).length : Int) := of_decide_eq_true (by first | (with_reducible assumption) | assumption)
                   obtain ⟨ad175, e175, hx175_0, hx175_1⟩ := at_T56 HR167_2.out (ji57) p175 q175
                   have hw175_1 := hx175_1
                   have hw175_0 := hx175_0
                   obtain rfl : ad173 = ad175 := (by injection e175)
                   try (replace hx175_0 := (HB.out.cell (World.block_lt_of_cell? w _ hx175_0)).trans hx175_0)
                   try (replace hx175_1 := (HB.out.cell (World.block_lt_of_cell? w _ hx175_1)).trans hx175_1)
                   replace p175 := eq_true p175
                   replace q175 := eq_true q175
                   refine start_ (n := 30) (S := fun w' => w'.cell? ⟨gb174, 0, none⟩ = some (.int .i64 ((rd_T56 ((rd_T52 l0 x3_1).f2) x5_3).f0)) ∧ w'.cell? ⟨gb174, 1, none⟩ = some (.string ((rd_T56 ((rd_T52 l0 x3_1).f2) x5_3).f1)) ∧ w'.cell? ⟨gb168, 0, none⟩ = some (.string ((rd_T52 l0 x3_1).f0)) ∧ w'.cell? ⟨gb168, 1, none⟩ = some (.int .i64 ((rd_T52 l0 x3_1).f1)) ∧ w'.cell? ⟨gb168, 2, none⟩ = some (.slice (some ad173) ((rd_T52 l0 x3_1).f2).length c167_2) ∧ w'.cell? (ad173.add (((ji57)).toNat * 2)) = some (.int .i64 ((rd_T56 ((rd_T52 l0 x3_1).f2) (ji57)).f0)) ∧ w'.cell? ⟨(ad173.add (((ji57)).toNat * 2)).block, (ad173.add (((ji57)).toNat * 2)).off + 1, none⟩ = some (.string ((rd_T56 ((rd_T52 l0 x3_1).f2) (ji57)).f1))) (ds := []) (tf 30 0) (by kernel_rfl) rfl rfl ⟨(blk_cell BK174.out 0).trans rfl, (blk_cell BK174.out 1).trans rfl, (blk_cell BK168.out 0).trans rfl, (blk_cell BK168.out 1).trans rfl, (blk_cell BK168.out 2).trans rfl, ((HB.out.cell (World.block_lt_of_cell? w _ hw175_0)).trans hw175_0), ((HB.out.cell (World.block_lt_of_cell? w _ hw175_1)).trans hw175_1)⟩ (fun hHeld => ?_); refine with_tabW spec_ProfilesOk.tab13 spec_ProfilesOk.bits13 (fun HT_ HW_ => ?_)
                   generalize w65.drew = w66 at BK168 BK174 HB hx175_0 hx175_1 hHeld ⊢
                   refine qA 0 69 (tf 30 1) ?_
                   refine qT 1 70 (tf 30 3) ?_
                   refine qA 2 71 (tf 30 7) ?_
                   refine qA 3 72 (tf 30 15) ?_
                   refine qA 4 73 (tf 30 31) ?_
                   refine qT 5 74 (tf 30 63) ?_
                   refine qA 6 75 (tf 30 127) ?_
                   refine qA 7 76 (tf 30 255) ?_
                   refine qA 8 77 (tf 30 511) ?_
                   refine qA 9 78 (tf 30 1023) ?_
                   refine qA 10 79 (tf 30 2047) ?_
                   refine qA 11 80 (tf 30 4095) ?_
                   refine qA 12 81 (tf 30 8191) ?_
                   refine qA 14 83 (tf 30 24575) ?_
                   refine qA 15 84 (tf 30 57343) ?_
                   refine qA 19 88 (tf 30 581631) ?_
                   refine qT 13 82 (tf 30 589823) ?_
                   refine qA 16 85 (tf 30 655359) ?_
                   refine qA 17 86 (tf 30 786431) ?_
                   refine qT 18 87 (tf 30 1048575) ?_
                   refine qT 20 89 (tf 30 2097151) ?_
                   refine qA 21 90 (tf 30 4194303) ?_
                   refine qA 22 91 (tf 30 8388607) ?_
                   refine qA 23 92 (tf 30 16777215) ?_
                   refine qA 24 93 (tf 30 33554431) ?_
                   refine qU 25 94 (tf 30 67108863) ?_
                   refine qU 26 95 (tf 30 134217727) ?_
                   refine qU 27 96 (tf 30 268435455) ?_
                   refine qU 28 97 (tf 30 536870911) ?_
                   refine qA 29 98 (tf 30 1073741823) ?_
                   refine done_ (done_of HT_.out (by kernel_rfl)) ?_
                   try go_wp2
                   go_ret
                   exact ⟨by first | rfl | (simp [errW_none, errW_some] <;> rfl) | (simp only [← hji57]; first | rfl | (simp [errW_none, errW_some] <;> rfl)) | (simp [*, errW_none, errW_some] <;> rfl), by repeat (first | (with_reducible first | exact HB.out | apply below_alloc | apply pw_below_drewN | apply below_drew1 | refine below_set ?_ GE168.out | refine below_set ?_ GE174.out) | exact HB.out)⟩
                  ·rw [if_neg c60] at H
                   have c60b0 : decide (((rd_T56 ((rd_T52 l0 x3_1).f2) x5_3).f0) ≤ ((rd_T56 ((rd_T52 l0 x3_1).f2) (ji57)).f0)) = false := decide_eq_false c60
                   clear c60
                   replace H := Option.bind_eq_some_iff.mp H
                   obtain ⟨t176, A670, H⟩ := H
                   replace H : (if t176 = true then (spec_ProfilesOk.l1 k3 l0 x3_1 (wrap64 (x5_3 + 1)) ((rd_T52 l0 x3_1).f0) ((rd_T52 l0 x3_1).f1) ((rd_T52 l0 x3_1).f2)) else (some false)) = some r := H
                   have A67 := Aside0.mk A670
                   clear A670
                   by_cases c68 : t176 = true
                   ·subst c68
                    have H1 : (spec_ProfilesOk.l1 k3 l0 x3_1 (wrap64 (x5_3 + 1)) ((rd_T52 l0 x3_1).f0) ((rd_T52 l0 x3_1).f1) ((rd_T52 l0 x3_1).f2)) = some r := by rw [if_pos rfl] at H; exact H
                    clear H
                    have H := H1
                    clear H1
                    have H' := Aside0.mk H
                    clear H
                    have hcz69_0 : wr.cell? ⟨gb168, 0, none⟩ = some (.string ((rd_T52 l0 x3_1).f0)) := (blk_cell BK168.out 0).trans rfl
                    have hcz69_1 : wr.cell? ⟨gb168, 1, none⟩ = some (.int .i64 ((rd_T52 l0 x3_1).f1)) := (blk_cell BK168.out 1).trans rfl
                    have hcz69_2 : wr.cell? ⟨gb168, 2, none⟩ = some (.slice A167_2 ((rd_T52 l0 x3_1).f2).length c167_2) := (blk_cell BK168.out 2).trans rfl
                    have hfz69_0 := blk_frozen BK168.out 0
                    have hfz69_1 := blk_frozen BK168.out 1
                    have hfz69_2 := blk_frozen BK168.out 2
                    have p173 : 0 ≤ (x5_3 : Int) := of_decide_eq_true (by first | (with_reducible assumption) | assumption)
                    have q173 : x5_3 < (((rd_T52 l0 x3_1).f2).length : Int) := of_decide_eq_true (by first | (with_reducible assumption) | assumption)
                    obtain ⟨ad173, e173, hx173_0, hx173_1⟩ := at_T56 HR167_2.out x5_3 p173 q173
                    cases e173
                    try (replace hx173_0 := (HB.out.cell (World.block_lt_of_cell? w _ hx173_0)).trans hx173_0)
                    try (replace hx173_1 := (HB.out.cell (World.block_lt_of_cell? w _ hx173_1)).trans hx173_1)
                    replace p173 := eq_true p173
                    replace q173 := eq_true q173
                    try go_wp2_with (first | ((with_reducible refine gate_dst (N := 6) rfl ?_); (try (refine gate_guard (by rfl) ?_; dsimp only)); refine box_event ?hg (N := 6) ?hd (cs := #[.int .i64 0, .string (⟨#[]⟩ : ByteArray)]) (t := 56) ?hr ?_; (case hd => rfl); (case hg => rfl); (case hr => first | (go_simp; done) | (go_simp; rfl)); intro gb174 hg w70 hbox hb; have n0_ := Aside0.mk (blk_below (g := gb168) (qK BK168.out) hb); have n1_ := Aside0.mk (below_step (qG GE168.out) hb); have n2_ := Aside0.mk (hbox); have n3_ := Aside0.mk ((by rw [hg]; exact (below_size (qG GE168.out)) : w.heap.size ≤ gb174)); have n4_ := Aside0.mk ((by rw [hg]; exact (below_size (qG GE168.out)) : w.heap.size ≤ gb174)); have n5_ := Aside0.mk ((by rw [hg]; exact Nat.ne_of_lt (blk_lt (g := gb168) (qK BK168.out)) : gb168 ≠ gb174)); have n6_ := Aside0.mk ((by rw [hg]; exact Nat.ne_of_gt (blk_lt (g := gb168) (qK BK168.out)) : gb174 ≠ gb168)); clear BK168; clear HB; have BK168 := n0_; have HB := n1_; have BK174 := n2_; have GW174 := n3_; have GE174 := n4_; have NB168_174 := n5_; have NB174_168 := n6_; clear n0_ n1_ n2_ n3_ n4_ n5_ n6_; clear hb hbox hg; have hnb71 := NB174_168.out; have hnc71 := NB168_174.out; have hcz72_0 : w70.cell? ⟨gb174, 0, none⟩ = some (.int .i64 0) := (blk_cell BK174.out 0).trans rfl; have hcz72_1 : w70.cell? ⟨gb174, 1, none⟩ = some (.string (⟨#[]⟩ : ByteArray)) := (blk_cell BK174.out 1).trans rfl; have hfz72_0 := blk_frozen BK174.out 0; have hfz72_1 := blk_frozen BK174.out 1))
                    have n0_ : Aside0 (((w70.setCell ⟨gb174, 0, none⟩ (.int .i64 ((rd_T56 ((rd_T52 l0 x3_1).f2) x5_3).f0))).setCell ⟨gb174, 1, none⟩ (.string ((rd_T56 ((rd_T52 l0 x3_1).f2) x5_3).f1))).heap[gb168]? = some (.cells #[.string ((rd_T52 l0 x3_1).f0), .int .i64 ((rd_T52 l0 x3_1).f1), .slice (some ad173) ((rd_T52 l0 x3_1).f2).length c167_2] 52 (0, 0))) := ⟨by (with_reducible repeat (first | refine blk_drewN ?_ _ | refine blk_drew ?_ | refine blk_alloc ?_ _)); refine blk_far ?_ NB168_174.out _; (with_reducible repeat (first | refine blk_drewN ?_ _ | refine blk_drew ?_ | refine blk_alloc ?_ _)); refine blk_far ?_ NB168_174.out _; (with_reducible repeat (first | refine blk_drewN ?_ _ | refine blk_drew ?_ | refine blk_alloc ?_ _)); exact BK168.out⟩
                    have n1_ : Aside0 (((w70.setCell ⟨gb174, 0, none⟩ (.int .i64 ((rd_T56 ((rd_T52 l0 x3_1).f2) x5_3).f0))).setCell ⟨gb174, 1, none⟩ (.string ((rd_T56 ((rd_T52 l0 x3_1).f2) x5_3).f1))).heap[gb174]? = some (.cells #[.int .i64 ((rd_T56 ((rd_T52 l0 x3_1).f2) x5_3).f0), .string ((rd_T56 ((rd_T52 l0 x3_1).f2) x5_3).f1)] 56 (0, 0))) := ⟨by (with_reducible repeat (first | refine blk_drewN ?_ _ | refine blk_drew ?_ | refine blk_alloc ?_ _)); refine blk_put (cs := #[.int .i64 ((rd_T56 ((rd_T52 l0 x3_1).f2) x5_3).f0), .string (⟨#[]⟩ : ByteArray)]) ?_ 1 _ rfl; (with_reducible repeat (first | refine blk_drewN ?_ _ | refine blk_drew ?_ | refine blk_alloc ?_ _)); refine blk_put (cs := #[.int .i64 0, .string (⟨#[]⟩ : ByteArray)]) ?_ 0 _ rfl; (with_reducible repeat (first | refine blk_drewN ?_ _ | refine blk_drew ?_ | refine blk_alloc ?_ _)); exact BK174.out⟩
                    have n2_ : Aside0 (Below w.heap.size w ((w70.setCell ⟨gb174, 0, none⟩ (.int .i64 ((rd_T56 ((rd_T52 l0 x3_1).f2) x5_3).f0))).setCell ⟨gb174, 1, none⟩ (.string ((rd_T56 ((rd_T52 l0 x3_1).f2) x5_3).f1)))) := ⟨by repeat (first | (with_reducible first | exact HB.out | apply below_alloc | apply pw_below_drewN | apply below_drew1 | refine below_set ?_ GE168.out | refine below_set ?_ GE174.out) | exact HB.out)⟩
                    (try clear BK168)
                    (try clear BK174)
                    (try clear HB)
                    generalize ((w70.setCell ⟨gb174, 0, none⟩ (.int .i64 ((rd_T56 ((rd_T52 l0 x3_1).f2) x5_3).f0))).setCell ⟨gb174, 1, none⟩ (.string ((rd_T56 ((rd_T52 l0 x3_1).f2) x5_3).f1))) = w73 at n0_ n1_ n2_ ⊢
                    have BK168 := n0_
                    have BK174 := n1_
                    have HB := n2_
                    clear n0_ n1_ n2_
                    have n0_ := Aside0.mk (blk_drew BK168.out)
                    have n1_ := Aside0.mk (blk_drew BK174.out)
                    have n2_ := Aside0.mk (below_drew1 HB.out)
                    clear BK168
                    clear BK174
                    clear HB
                    have BK168 := n0_
                    have BK174 := n1_
                    have HB := n2_
                    clear n0_ n1_ n2_
                    have p175 : 0 ≤ ((ji57) : Int) := of_decide_eq_true (by first | (with_reducible assumption) | assumption)
                    have q175 : (ji57) < (((rd_T52 l0 x3_1).f2).length : Int) := of_decide_eq_true (by first | (with_reducible assumption) | assumption)
                    obtain ⟨ad175, e175, hx175_0, hx175_1⟩ := at_T56 HR167_2.out (ji57) p175 q175
                    have hw175_1 := hx175_1
                    have hw175_0 := hx175_0
                    obtain rfl : ad173 = ad175 := (by injection e175)
                    try (replace hx175_0 := (HB.out.cell (World.block_lt_of_cell? w _ hx175_0)).trans hx175_0)
                    try (replace hx175_1 := (HB.out.cell (World.block_lt_of_cell? w _ hx175_1)).trans hx175_1)
                    replace p175 := eq_true p175
                    replace q175 := eq_true q175
                    refine start_ (n := 30) (S := fun w' => w'.cell? ⟨gb174, 0, none⟩ = some (.int .i64 ((rd_T56 ((rd_T52 l0 x3_1).f2) x5_3).f0)) ∧ w'.cell? ⟨gb174, 1, none⟩ = some (.string ((rd_T56 ((rd_T52 l0 x3_1).f2) x5_3).f1)) ∧ w'.cell? ⟨gb168, 0, none⟩ = some (.string ((rd_T52 l0 x3_1).f0)) ∧ w'.cell? ⟨gb168, 1, none⟩ = some (.int .i64 ((rd_T52 l0 x3_1).f1)) ∧ w'.cell? ⟨gb168, 2, none⟩ = some (.slice (some ad173) ((rd_T52 l0 x3_1).f2).length c167_2) ∧ w'.cell? (ad173.add (((ji57)).toNat * 2)) = some (.int .i64 ((rd_T56 ((rd_T52 l0 x3_1).f2) (ji57)).f0)) ∧ w'.cell? ⟨(ad173.add (((ji57)).toNat * 2)).block, (ad173.add (((ji57)).toNat * 2)).off + 1, none⟩ = some (.string ((rd_T56 ((rd_T52 l0 x3_1).f2) (ji57)).f1))) (ds := []) (tf 30 0) (by kernel_rfl) rfl rfl ⟨(blk_cell BK174.out 0).trans rfl, (blk_cell BK174.out 1).trans rfl, (blk_cell BK168.out 0).trans rfl, (blk_cell BK168.out 1).trans rfl, (blk_cell BK168.out 2).trans rfl, ((HB.out.cell (World.block_lt_of_cell? w _ hw175_0)).trans hw175_0), ((HB.out.cell (World.block_lt_of_cell? w _ hw175_1)).trans hw175_1)⟩ (fun hHeld => ?_); refine with_tabW spec_ProfilesOk.tab13 spec_ProfilesOk.bits13 (fun HT_ HW_ => ?_)
                    generalize w73.drew = w74 at BK168 BK174 HB hx175_0 hx175_1 hHeld ⊢
                    refine qA 0 69 (tf 30 1) ?_
                    refine qT 1 70 (tf 30 3) ?_
                    refine qA 2 71 (tf 30 7) ?_
                    refine qA 3 72 (tf 30 15) ?_
                    refine qA 4 73 (tf 30 31) ?_
                    refine qT 5 74 (tf 30 63) ?_
                    refine qA 6 75 (tf 30 127) ?_
                    refine qA 7 76 (tf 30 255) ?_
                    refine qA 8 77 (tf 30 511) ?_
                    refine qA 9 78 (tf 30 1023) ?_
                    refine qA 10 79 (tf 30 2047) ?_
                    refine qA 11 80 (tf 30 4095) ?_
                    refine qA 12 81 (tf 30 8191) ?_
                    refine qA 14 83 (tf 30 24575) ?_
                    refine qA 15 84 (tf 30 57343) ?_
                    refine qA 19 88 (tf 30 581631) ?_
                    refine qT 13 82 (tf 30 589823) ?_
                    refine qA 16 85 (tf 30 655359) ?_
                    refine qA 17 86 (tf 30 786431) ?_
                    refine qT 18 87 (tf 30 1048575) ?_
                    refine qT 20 89 (tf 30 2097151) ?_
                    refine qA 21 90 (tf 30 4194303) ?_
                    refine qA 22 91 (tf 30 8388607) ?_
                    refine qA 23 92 (tf 30 16777215) ?_
                    refine qA 24 93 (tf 30 33554431) ?_
                    refine qA 25 94 (tf 30 67108863) ?_
                    refine qT 26 95 (tf 30 134217727) ?_
                    refine one_ (i := 27) (N := some 96) (tf 30 268435455) rfl rfl (one_of HT_.out (by kernel_rfl)) (by decide) (fun K hK => ?_)
                    refine goes_ Try.func32 (by kernel_rfl) rfl #[.string ((rd_T56 ((rd_T52 l0 x3_1).f2) x5_3).f1)] (by rfl) rfl rfl (by (try simp only [List.map_toArray, List.map_cons, List.map_nil]); first | done | rfl | (simp only [List.length_drop, List.length_take]; rfl)) ?_
                    with_reducible refine (spec_AddressOk.calls k3 ((rd_T56 ((rd_T52 l0 x3_1).f2) x5_3).f1) true _ A67.out).mono ?_
                    rintro e w' ⟨rfl, ⟨nd, rfl⟩⟩
                    refine ⟨_, rfl, ?_⟩
                    refine hK.out _ _ ⟨(blk_cell BK174.out 0).trans rfl, (blk_cell BK174.out 1).trans rfl, (blk_cell BK168.out 0).trans rfl, (blk_cell BK168.out 1).trans rfl, (blk_cell BK168.out 2).trans rfl, ((HB.out.cell (World.block_lt_of_cell? w _ hw175_0)).trans hw175_0), ((HB.out.cell (World.block_lt_of_cell? w _ hw175_1)).trans hw175_1)⟩ (fun hHeld => ?_)
                    clear hK K
                    refine norm_ (a' := ?_) ?_ ?_
                    rotate_left
                    ·show Act.put _ (some 96) _ = _
                     simp only [Act.put, sT, s0, sS, i64_w, i32_w]
                     rfl
                    refine qA 28 97 (tf 30 536870911) ?_
                    refine qA 29 98 (tf 30 1073741823) ?_
                    refine done_ (done_of HT_.out (by kernel_rfl)) ?_
                    try go_wp2
                    go_roundg k3
                    case measure => have := HK1.out; have := HJ4.out; have := HK3.out; omega
                    case rel => exact ⟨(wrap64 (x5_3 + 1)), (by first | rfl | (simp; done) | (simp [*]; done)), H', ⟨by have := HK1.out; have := HJ4.out; have := HK3.out; omega⟩, ⟨by (with_reducible repeat (first | refine blk_drewN ?_ _ | refine blk_drew ?_ | refine blk_alloc ?_ _)); exact BK168.out⟩, ⟨by repeat (first | (with_reducible first | exact HB.out | apply below_alloc | apply pw_below_drewN | apply below_drew1 | refine below_set ?_ GE168.out | refine below_set ?_ GE174.out) | exact HB.out)⟩⟩
                   ·replace c68 := Bool.eq_false_iff.mpr c68
                    subst c68
                    have H1 : (some false) = some r := by rw [if_neg (show ¬ (false = true) by decide)] at H; exact H
                    clear H
                    have H := H1
                    clear H1
                    obtain rfl := Option.some.inj H
                    have hcz75_0 : wr.cell? ⟨gb168, 0, none⟩ = some (.string ((rd_T52 l0 x3_1).f0)) := (blk_cell BK168.out 0).trans rfl
                    have hcz75_1 : wr.cell? ⟨gb168, 1, none⟩ = some (.int .i64 ((rd_T52 l0 x3_1).f1)) := (blk_cell BK168.out 1).trans rfl
                    have hcz75_2 : wr.cell? ⟨gb168, 2, none⟩ = some (.slice A167_2 ((rd_T52 l0 x3_1).f2).length c167_2) := (blk_cell BK168.out 2).trans rfl
                    have hfz75_0 := blk_frozen BK168.out 0
                    have hfz75_1 := blk_frozen BK168.out 1
                    have hfz75_2 := blk_frozen BK168.out 2
                    have p173 : 0 ≤ (x5_3 : Int) := of_decide_eq_true (by first | (with_reducible assumption) | assumption)
                    have q173 : x5_3 < (((rd_T52 l0 x3_1).f2).length : Int) := of_decide_eq_true (by first | (with_reducible assumption) | assumption)
                    obtain ⟨ad173, e173, hx173_0, hx173_1⟩ := at_T56 HR167_2.out x5_3 p173 q173
                    cases e173
                    try (replace hx173_0 := (HB.out.cell (World.block_lt_of_cell? w _ hx173_0)).trans hx173_0)
                    try (replace hx173_1 := (HB.out.cell (World.block_lt_of_cell? w _ hx173_1)).trans hx173_1)
                    replace p173 := eq_true p173
                    replace q173 := eq_true q173
                    try go_wp2_with (first | ((with_reducible refine gate_dst (N := 6) rfl ?_); (try (refine gate_guard (by rfl) ?_; dsimp only)); refine box_event ?hg (N := 6) ?hd (cs := #[.int .i64 0, .string (⟨#[]⟩ : ByteArray)]) (t := 56) ?hr ?_; (case hd => rfl); (case hg => rfl); (case hr => first | (go_simp; done) | (go_simp; rfl)); intro gb174 hg w76 hbox hb; have n0_ := Aside0.mk (blk_below (g := gb168) (qK BK168.out) hb); have n1_ := Aside0.mk (below_step (qG GE168.out) hb); have n2_ := Aside0.mk (hbox); have n3_ := Aside0.mk ((by rw [hg]; exact (below_size (qG GE168.out)) : w.heap.size ≤ gb174)); have n4_ := Aside0.mk ((by rw [hg]; exact (below_size (qG GE168.out)) : w.heap.size ≤ gb174)); have n5_ := Aside0.mk ((by rw [hg]; exact Nat.ne_of_lt (blk_lt (g := gb168) (qK BK168.out)) : gb168 ≠ gb174)); have n6_ := Aside0.mk ((by rw [hg]; exact Nat.ne_of_gt (blk_lt (g := gb168) (qK BK168.out)) : gb174 ≠ gb168)); clear BK168; clear HB; have BK168 := n0_; have HB := n1_; have BK174 := n2_; have GW174 := n3_; have GE174 := n4_; have NB168_174 := n5_; have NB174_168 := n6_; clear n0_ n1_ n2_ n3_ n4_ n5_ n6_; clear hb hbox hg; have hnb77 := NB174_168.out; have hnc77 := NB168_174.out; have hcz78_0 : w76.cell? ⟨gb174, 0, none⟩ = some (.int .i64 0) := (blk_cell BK174.out 0).trans rfl; have hcz78_1 : w76.cell? ⟨gb174, 1, none⟩ = some (.string (⟨#[]⟩ : ByteArray)) := (blk_cell BK174.out 1).trans rfl; have hfz78_0 := blk_frozen BK174.out 0; have hfz78_1 := blk_frozen BK174.out 1))
                    have n0_ : Aside0 (((w76.setCell ⟨gb174, 0, none⟩ (.int .i64 ((rd_T56 ((rd_T52 l0 x3_1).f2) x5_3).f0))).setCell ⟨gb174, 1, none⟩ (.string ((rd_T56 ((rd_T52 l0 x3_1).f2) x5_3).f1))).heap[gb168]? = some (.cells #[.string ((rd_T52 l0 x3_1).f0), .int .i64 ((rd_T52 l0 x3_1).f1), .slice (some ad173) ((rd_T52 l0 x3_1).f2).length c167_2] 52 (0, 0))) := ⟨by (with_reducible repeat (first | refine blk_drewN ?_ _ | refine blk_drew ?_ | refine blk_alloc ?_ _)); refine blk_far ?_ NB168_174.out _; (with_reducible repeat (first | refine blk_drewN ?_ _ | refine blk_drew ?_ | refine blk_alloc ?_ _)); refine blk_far ?_ NB168_174.out _; (with_reducible repeat (first | refine blk_drewN ?_ _ | refine blk_drew ?_ | refine blk_alloc ?_ _)); exact BK168.out⟩
                    have n1_ : Aside0 (((w76.setCell ⟨gb174, 0, none⟩ (.int .i64 ((rd_T56 ((rd_T52 l0 x3_1).f2) x5_3).f0))).setCell ⟨gb174, 1, none⟩ (.string ((rd_T56 ((rd_T52 l0 x3_1).f2) x5_3).f1))).heap[gb174]? = some (.cells #[.int .i64 ((rd_T56 ((rd_T52 l0 x3_1).f2) x5_3).f0), .string ((rd_T56 ((rd_T52 l0 x3_1).f2) x5_3).f1)] 56 (0, 0))) := ⟨by (with_reducible repeat (first | refine blk_drewN ?_ _ | refine blk_drew ?_ | refine blk_alloc ?_ _)); refine blk_put (cs := #[.int .i64 ((rd_T56 ((rd_T52 l0 x3_1).f2) x5_3).f0), .string (⟨#[]⟩ : ByteArray)]) ?_ 1 _ rfl; (with_reducible repeat (first | refine blk_drewN ?_ _ | refine blk_drew ?_ | refine blk_alloc ?_ _)); refine blk_put (cs := #[.int .i64 0, .string (⟨#[]⟩ : ByteArray)]) ?_ 0 _ rfl; (with_reducible repeat (first | refine blk_drewN ?_ _ | refine blk_drew ?_ | refine blk_alloc ?_ _)); exact BK174.out⟩
                    have n2_ : Aside0 (Below w.heap.size w ((w76.setCell ⟨gb174, 0, none⟩ (.int .i64 ((rd_T56 ((rd_T52 l0 x3_1).f2) x5_3).f0))).setCell ⟨gb174, 1, none⟩ (.string ((rd_T56 ((rd_T52 l0 x3_1).f2) x5_3).f1)))) := ⟨by repeat (first | (with_reducible first | exact HB.out | apply below_alloc | apply pw_below_drewN | apply below_drew1 | refine below_set ?_ GE168.out | refine below_set ?_ GE174.out) | exact HB.out)⟩
                    (try clear BK168)
                    (try clear BK174)
                    (try clear HB)
                    generalize ((w76.setCell ⟨gb174, 0, none⟩ (.int .i64 ((rd_T56 ((rd_T52 l0 x3_1).f2) x5_3).f0))).setCell ⟨gb174, 1, none⟩ (.string ((rd_T56 ((rd_T52 l0 x3_1).f2) x5_3).f1))) = w79 at n0_ n1_ n2_ ⊢
                    have BK168 := n0_
                    have BK174 := n1_
                    have HB := n2_
                    clear n0_ n1_ n2_
                    have n0_ := Aside0.mk (blk_drew BK168.out)
                    have n1_ := Aside0.mk (blk_drew BK174.out)
                    have n2_ := Aside0.mk (below_drew1 HB.out)
                    clear BK168
                    clear BK174
                    clear HB
                    have BK168 := n0_
                    have BK174 := n1_
                    have HB := n2_
                    clear n0_ n1_ n2_
                    have p175 : 0 ≤ ((ji57) : Int) := of_decide_eq_true (by first | (with_reducible assumption) | assumption)
                    have q175 : (ji57) < (((rd_T52 l0 x3_1).f2).length : Int) := of_decide_eq_true (by first | (with_reducible assumption) | assumption)
                    obtain ⟨ad175, e175, hx175_0, hx175_1⟩ := at_T56 HR167_2.out (ji57) p175 q175
                    have hw175_1 := hx175_1
                    have hw175_0 := hx175_0
                    obtain rfl : ad173 = ad175 := (by injection e175)
                    try (replace hx175_0 := (HB.out.cell (World.block_lt_of_cell? w _ hx175_0)).trans hx175_0)
                    try (replace hx175_1 := (HB.out.cell (World.block_lt_of_cell? w _ hx175_1)).trans hx175_1)
                    replace p175 := eq_true p175
                    replace q175 := eq_true q175
                    refine start_ (n := 30) (S := fun w' => w'.cell? ⟨gb174, 0, none⟩ = some (.int .i64 ((rd_T56 ((rd_T52 l0 x3_1).f2) x5_3).f0)) ∧ w'.cell? ⟨gb174, 1, none⟩ = some (.string ((rd_T56 ((rd_T52 l0 x3_1).f2) x5_3).f1)) ∧ w'.cell? ⟨gb168, 0, none⟩ = some (.string ((rd_T52 l0 x3_1).f0)) ∧ w'.cell? ⟨gb168, 1, none⟩ = some (.int .i64 ((rd_T52 l0 x3_1).f1)) ∧ w'.cell? ⟨gb168, 2, none⟩ = some (.slice (some ad173) ((rd_T52 l0 x3_1).f2).length c167_2) ∧ w'.cell? (ad173.add (((ji57)).toNat * 2)) = some (.int .i64 ((rd_T56 ((rd_T52 l0 x3_1).f2) (ji57)).f0)) ∧ w'.cell? ⟨(ad173.add (((ji57)).toNat * 2)).block, (ad173.add (((ji57)).toNat * 2)).off + 1, none⟩ = some (.string ((rd_T56 ((rd_T52 l0 x3_1).f2) (ji57)).f1))) (ds := []) (tf 30 0) (by kernel_rfl) rfl rfl ⟨(blk_cell BK174.out 0).trans rfl, (blk_cell BK174.out 1).trans rfl, (blk_cell BK168.out 0).trans rfl, (blk_cell BK168.out 1).trans rfl, (blk_cell BK168.out 2).trans rfl, ((HB.out.cell (World.block_lt_of_cell? w _ hw175_0)).trans hw175_0), ((HB.out.cell (World.block_lt_of_cell? w _ hw175_1)).trans hw175_1)⟩ (fun hHeld => ?_); refine with_tabW spec_ProfilesOk.tab13 spec_ProfilesOk.bits13 (fun HT_ HW_ => ?_)
                    generalize w79.drew = w80 at BK168 BK174 HB hx175_0 hx175_1 hHeld ⊢
                    refine qA 0 69 (tf 30 1) ?_
                    refine qT 1 70 (tf 30 3) ?_
                    refine qA 2 71 (tf 30 7) ?_
                    refine qA 3 72 (tf 30 15) ?_
                    refine qA 4 73 (tf 30 31) ?_
                    refine qT 5 74 (tf 30 63) ?_
                    refine qA 6 75 (tf 30 127) ?_
                    refine qA 7 76 (tf 30 255) ?_
                    refine qA 8 77 (tf 30 511) ?_
                    refine qA 9 78 (tf 30 1023) ?_
                    refine qA 10 79 (tf 30 2047) ?_
                    refine qA 11 80 (tf 30 4095) ?_
                    refine qA 12 81 (tf 30 8191) ?_
                    refine qA 14 83 (tf 30 24575) ?_
                    refine qA 15 84 (tf 30 57343) ?_
                    refine qA 19 88 (tf 30 581631) ?_
                    refine qT 13 82 (tf 30 589823) ?_
                    refine qA 16 85 (tf 30 655359) ?_
                    refine qA 17 86 (tf 30 786431) ?_
                    refine qT 18 87 (tf 30 1048575) ?_
                    refine qT 20 89 (tf 30 2097151) ?_
                    refine qA 21 90 (tf 30 4194303) ?_
                    refine qA 22 91 (tf 30 8388607) ?_
                    refine qA 23 92 (tf 30 16777215) ?_
                    refine qA 24 93 (tf 30 33554431) ?_
                    refine qA 25 94 (tf 30 67108863) ?_
                    refine qT 26 95 (tf 30 134217727) ?_
                    refine one_ (i := 27) (N := some 96) (tf 30 268435455) rfl rfl (one_of HT_.out (by kernel_rfl)) (by decide) (fun K hK => ?_)
                    refine goes_ Try.func32 (by kernel_rfl) rfl #[.string ((rd_T56 ((rd_T52 l0 x3_1).f2) x5_3).f1)] (by rfl) rfl rfl (by (try simp only [List.map_toArray, List.map_cons, List.map_nil]); first | done | rfl | (simp only [List.length_drop, List.length_take]; rfl)) ?_
                    with_reducible refine (spec_AddressOk.calls k3 ((rd_T56 ((rd_T52 l0 x3_1).f2) x5_3).f1) false _ A67.out).mono ?_
                    rintro e w' ⟨rfl, ⟨nd, rfl⟩⟩
                    refine ⟨_, rfl, ?_⟩
                    refine hK.out _ _ ⟨(blk_cell BK174.out 0).trans rfl, (blk_cell BK174.out 1).trans rfl, (blk_cell BK168.out 0).trans rfl, (blk_cell BK168.out 1).trans rfl, (blk_cell BK168.out 2).trans rfl, ((HB.out.cell (World.block_lt_of_cell? w _ hw175_0)).trans hw175_0), ((HB.out.cell (World.block_lt_of_cell? w _ hw175_1)).trans hw175_1)⟩ (fun hHeld => ?_)
                    clear hK K
                    refine norm_ (a' := ?_) ?_ ?_
                    rotate_left
                    ·show Act.put _ (some 96) _ = _
                     simp only [Act.put, sT, s0, sS, i64_w, i32_w]
                     rfl
                    refine qA 28 97 (tf 30 536870911) ?_
                    refine qA 29 98 (tf 30 1073741823) ?_
                    refine done_ (done_of HT_.out (by kernel_rfl)) ?_
                    try go_wp2
                    go_ret
                    exact ⟨by first | rfl | (simp [errW_none, errW_some] <;> rfl) | (simp only [← hji57]; first | rfl | (simp [errW_none, errW_some] <;> rfl)) | (simp [*, errW_none, errW_some] <;> rfl), by repeat (first | (with_reducible first | exact HB.out | apply below_alloc | apply pw_below_drewN | apply below_drew1 | refine below_set ?_ GE168.out | refine below_set ?_ GE174.out) | exact HB.out)⟩
                 ·rw [if_neg c59] at H
                  exact absurd H (by simp)
                ·rw [if_neg c58] at H
                 exact absurd H (by simp)
               ·rw [if_neg c56] at H
                have c56b0 : decide (0 < x5_3) = false := decide_eq_false c56
                clear c56
                replace H := Option.bind_eq_some_iff.mp H
                obtain ⟨t177, A810, H⟩ := H
                replace H : (if t177 = true then (spec_ProfilesOk.l1 k3 l0 x3_1 (wrap64 (x5_3 + 1)) ((rd_T52 l0 x3_1).f0) ((rd_T52 l0 x3_1).f1) ((rd_T52 l0 x3_1).f2)) else (some false)) = some r := H
                have A81 := Aside0.mk A810
                clear A810
                by_cases c82 : t177 = true
                ·subst c82
                 have H1 : (spec_ProfilesOk.l1 k3 l0 x3_1 (wrap64 (x5_3 + 1)) ((rd_T52 l0 x3_1).f0) ((rd_T52 l0 x3_1).f1) ((rd_T52 l0 x3_1).f2)) = some r := by rw [if_pos rfl] at H; exact H
                 clear H
                 have H := H1
                 clear H1
                 have H' := Aside0.mk H
                 clear H
                 have hcz83_0 : wr.cell? ⟨gb168, 0, none⟩ = some (.string ((rd_T52 l0 x3_1).f0)) := (blk_cell BK168.out 0).trans rfl
                 have hcz83_1 : wr.cell? ⟨gb168, 1, none⟩ = some (.int .i64 ((rd_T52 l0 x3_1).f1)) := (blk_cell BK168.out 1).trans rfl
                 have hcz83_2 : wr.cell? ⟨gb168, 2, none⟩ = some (.slice A167_2 ((rd_T52 l0 x3_1).f2).length c167_2) := (blk_cell BK168.out 2).trans rfl
                 have hfz83_0 := blk_frozen BK168.out 0
                 have hfz83_1 := blk_frozen BK168.out 1
                 have hfz83_2 := blk_frozen BK168.out 2
                 have p173 : 0 ≤ (x5_3 : Int) := of_decide_eq_true (by first | (with_reducible assumption) | assumption)
                 have q173 : x5_3 < (((rd_T52 l0 x3_1).f2).length : Int) := of_decide_eq_true (by first | (with_reducible assumption) | assumption)
                 obtain ⟨ad173, e173, hx173_0, hx173_1⟩ := at_T56 HR167_2.out x5_3 p173 q173
                 cases e173
                 try (replace hx173_0 := (HB.out.cell (World.block_lt_of_cell? w _ hx173_0)).trans hx173_0)
                 try (replace hx173_1 := (HB.out.cell (World.block_lt_of_cell? w _ hx173_1)).trans hx173_1)
                 replace p173 := eq_true p173
                 replace q173 := eq_true q173
                 try go_wp2_with (first | ((with_reducible refine gate_dst (N := 6) rfl ?_); (try (refine gate_guard (by rfl) ?_; dsimp only)); refine box_event ?hg (N := 6) ?hd (cs := #[.int .i64 0, .string (⟨#[]⟩ : ByteArray)]) (t := 56) ?hr ?_; (case hd => rfl); (case hg => rfl); (case hr => first | (go_simp; done) | (go_simp; rfl)); intro gb174 hg w84 hbox hb; have n0_ := Aside0.mk (blk_below (g := gb168) (qK BK168.out) hb); have n1_ := Aside0.mk (below_step (qG GE168.out) hb); have n2_ := Aside0.mk (hbox); have n3_ := Aside0.mk ((by rw [hg]; exact (below_size (qG GE168.out)) : w.heap.size ≤ gb174)); have n4_ := Aside0.mk ((by rw [hg]; exact (below_size (qG GE168.out)) : w.heap.size ≤ gb174)); have n5_ := Aside0.mk ((by rw [hg]; exact Nat.ne_of_lt (blk_lt (g := gb168) (qK BK168.out)) : gb168 ≠ gb174)); have n6_ := Aside0.mk ((by rw [hg]; exact Nat.ne_of_gt (blk_lt (g := gb168) (qK BK168.out)) : gb174 ≠ gb168)); clear BK168; clear HB; have BK168 := n0_; have HB := n1_; have BK174 := n2_; have GW174 := n3_; have GE174 := n4_; have NB168_174 := n5_; have NB174_168 := n6_; clear n0_ n1_ n2_ n3_ n4_ n5_ n6_; clear hb hbox hg; have hnb85 := NB174_168.out; have hnc85 := NB168_174.out; have hcz86_0 : w84.cell? ⟨gb174, 0, none⟩ = some (.int .i64 0) := (blk_cell BK174.out 0).trans rfl; have hcz86_1 : w84.cell? ⟨gb174, 1, none⟩ = some (.string (⟨#[]⟩ : ByteArray)) := (blk_cell BK174.out 1).trans rfl; have hfz86_0 := blk_frozen BK174.out 0; have hfz86_1 := blk_frozen BK174.out 1))
                 have n0_ : Aside0 (((w84.setCell ⟨gb174, 0, none⟩ (.int .i64 ((rd_T56 ((rd_T52 l0 x3_1).f2) x5_3).f0))).setCell ⟨gb174, 1, none⟩ (.string ((rd_T56 ((rd_T52 l0 x3_1).f2) x5_3).f1))).heap[gb168]? = some (.cells #[.string ((rd_T52 l0 x3_1).f0), .int .i64 ((rd_T52 l0 x3_1).f1), .slice (some ad173) ((rd_T52 l0 x3_1).f2).length c167_2] 52 (0, 0))) := ⟨by (with_reducible repeat (first | refine blk_drewN ?_ _ | refine blk_drew ?_ | refine blk_alloc ?_ _)); refine blk_far ?_ NB168_174.out _; (with_reducible repeat (first | refine blk_drewN ?_ _ | refine blk_drew ?_ | refine blk_alloc ?_ _)); refine blk_far ?_ NB168_174.out _; (with_reducible repeat (first | refine blk_drewN ?_ _ | refine blk_drew ?_ | refine blk_alloc ?_ _)); exact BK168.out⟩
                 have n1_ : Aside0 (((w84.setCell ⟨gb174, 0, none⟩ (.int .i64 ((rd_T56 ((rd_T52 l0 x3_1).f2) x5_3).f0))).setCell ⟨gb174, 1, none⟩ (.string ((rd_T56 ((rd_T52 l0 x3_1).f2) x5_3).f1))).heap[gb174]? = some (.cells #[.int .i64 ((rd_T56 ((rd_T52 l0 x3_1).f2) x5_3).f0), .string ((rd_T56 ((rd_T52 l0 x3_1).f2) x5_3).f1)] 56 (0, 0))) := ⟨by (with_reducible repeat (first | refine blk_drewN ?_ _ | refine blk_drew ?_ | refine blk_alloc ?_ _)); refine blk_put (cs := #[.int .i64 ((rd_T56 ((rd_T52 l0 x3_1).f2) x5_3).f0), .string (⟨#[]⟩ : ByteArray)]) ?_ 1 _ rfl; (with_reducible repeat (first | refine blk_drewN ?_ _ | refine blk_drew ?_ | refine blk_alloc ?_ _)); refine blk_put (cs := #[.int .i64 0, .string (⟨#[]⟩ : ByteArray)]) ?_ 0 _ rfl; (with_reducible repeat (first | refine blk_drewN ?_ _ | refine blk_drew ?_ | refine blk_alloc ?_ _)); exact BK174.out⟩
                 have n2_ : Aside0 (Below w.heap.size w ((w84.setCell ⟨gb174, 0, none⟩ (.int .i64 ((rd_T56 ((rd_T52 l0 x3_1).f2) x5_3).f0))).setCell ⟨gb174, 1, none⟩ (.string ((rd_T56 ((rd_T52 l0 x3_1).f2) x5_3).f1)))) := ⟨by repeat (first | (with_reducible first | exact HB.out | apply below_alloc | apply pw_below_drewN | apply below_drew1 | refine below_set ?_ GE168.out | refine below_set ?_ GE174.out) | exact HB.out)⟩
                 (try clear BK168)
                 (try clear BK174)
                 (try clear HB)
                 generalize ((w84.setCell ⟨gb174, 0, none⟩ (.int .i64 ((rd_T56 ((rd_T52 l0 x3_1).f2) x5_3).f0))).setCell ⟨gb174, 1, none⟩ (.string ((rd_T56 ((rd_T52 l0 x3_1).f2) x5_3).f1))) = w87 at n0_ n1_ n2_ ⊢
                 have BK168 := n0_
                 have BK174 := n1_
                 have HB := n2_
                 clear n0_ n1_ n2_
                 have n0_ := Aside0.mk (blk_drew BK168.out)
                 have n1_ := Aside0.mk (blk_drew BK174.out)
                 have n2_ := Aside0.mk (below_drew1 HB.out)
                 clear BK168
                 clear BK174
                 clear HB
                 have BK168 := n0_
                 have BK174 := n1_
                 have HB := n2_
                 clear n0_ n1_ n2_
                 refine start_ (n := 30) (S := fun w' => w'.cell? ⟨gb174, 0, none⟩ = some (.int .i64 ((rd_T56 ((rd_T52 l0 x3_1).f2) x5_3).f0)) ∧ w'.cell? ⟨gb174, 1, none⟩ = some (.string ((rd_T56 ((rd_T52 l0 x3_1).f2) x5_3).f1))) (ds := []) (tf 30 0) (by kernel_rfl) rfl rfl ⟨(blk_cell BK174.out 0).trans rfl, (blk_cell BK174.out 1).trans rfl⟩ (fun hHeld => ?_); refine with_tabW spec_ProfilesOk.tab13 spec_ProfilesOk.bits13 (fun HT_ HW_ => ?_)
                 generalize w87.drew = w88 at BK168 BK174 HB hHeld ⊢
                 refine qA 0 69 (tf 30 1) ?_
                 refine qT 1 70 (tf 30 3) ?_
                 refine qA 2 71 (tf 30 7) ?_
                 refine qA 3 72 (tf 30 15) ?_
                 refine qA 4 73 (tf 30 31) ?_
                 refine qT 5 74 (tf 30 63) ?_
                 refine qA 6 75 (tf 30 127) ?_
                 refine qA 7 76 (tf 30 255) ?_
                 refine qA 8 77 (tf 30 511) ?_
                 refine qA 9 78 (tf 30 1023) ?_
                 refine qA 10 79 (tf 30 2047) ?_
                 refine qA 11 80 (tf 30 4095) ?_
                 refine qU 12 81 (tf 30 8191) ?_
                 refine qU 13 82 (tf 30 16383) ?_
                 refine qU 14 83 (tf 30 32767) ?_
                 refine qU 15 84 (tf 30 65535) ?_
                 refine qU 16 85 (tf 30 131071) ?_
                 refine qU 17 86 (tf 30 262143) ?_
                 refine qU 18 87 (tf 30 524287) ?_
                 refine qU 19 88 (tf 30 1048575) ?_
                 refine qU 20 89 (tf 30 2097151) ?_
                 refine qU 21 90 (tf 30 4194303) ?_
                 refine qA 22 91 (tf 30 8388607) ?_
                 refine qA 23 92 (tf 30 16777215) ?_
                 refine qA 24 93 (tf 30 33554431) ?_
                 refine qA 25 94 (tf 30 67108863) ?_
                 refine qT 26 95 (tf 30 134217727) ?_
                 refine one_ (i := 27) (N := some 96) (tf 30 268435455) rfl rfl (one_of HT_.out (by kernel_rfl)) (by decide) (fun K hK => ?_)
                 refine goes_ Try.func32 (by kernel_rfl) rfl #[.string ((rd_T56 ((rd_T52 l0 x3_1).f2) x5_3).f1)] (by rfl) rfl rfl (by (try simp only [List.map_toArray, List.map_cons, List.map_nil]); first | done | rfl | (simp only [List.length_drop, List.length_take]; rfl)) ?_
                 with_reducible refine (spec_AddressOk.calls k3 ((rd_T56 ((rd_T52 l0 x3_1).f2) x5_3).f1) true _ A81.out).mono ?_
                 rintro e w' ⟨rfl, ⟨nd, rfl⟩⟩
                 refine ⟨_, rfl, ?_⟩
                 refine hK.out _ _ ⟨(blk_cell BK174.out 0).trans rfl, (blk_cell BK174.out 1).trans rfl⟩ (fun hHeld => ?_)
                 clear hK K
                 refine norm_ (a' := ?_) ?_ ?_
                 rotate_left
                 ·show Act.put _ (some 96) _ = _
                  simp only [Act.put, sT, s0, sS, i64_w, i32_w]
                  rfl
                 refine qA 28 97 (tf 30 536870911) ?_
                 refine qA 29 98 (tf 30 1073741823) ?_
                 refine done_ (done_of HT_.out (by kernel_rfl)) ?_
                 try go_wp2
                 go_roundg k3
                 case measure => have := HK1.out; have := HJ4.out; have := HK3.out; omega
                 case rel => exact ⟨(wrap64 (x5_3 + 1)), (by first | rfl | (simp; done) | (simp [*]; done)), H', ⟨by have := HK1.out; have := HJ4.out; have := HK3.out; omega⟩, ⟨by (with_reducible repeat (first | refine blk_drewN ?_ _ | refine blk_drew ?_ | refine blk_alloc ?_ _)); exact BK168.out⟩, ⟨by repeat (first | (with_reducible first | exact HB.out | apply below_alloc | apply pw_below_drewN | apply below_drew1 | refine below_set ?_ GE168.out | refine below_set ?_ GE174.out) | exact HB.out)⟩⟩
                ·replace c82 := Bool.eq_false_iff.mpr c82
                 subst c82
                 have H1 : (some false) = some r := by rw [if_neg (show ¬ (false = true) by decide)] at H; exact H
                 clear H
                 have H := H1
                 clear H1
                 obtain rfl := Option.some.inj H
                 have hcz89_0 : wr.cell? ⟨gb168, 0, none⟩ = some (.string ((rd_T52 l0 x3_1).f0)) := (blk_cell BK168.out 0).trans rfl
                 have hcz89_1 : wr.cell? ⟨gb168, 1, none⟩ = some (.int .i64 ((rd_T52 l0 x3_1).f1)) := (blk_cell BK168.out 1).trans rfl
                 have hcz89_2 : wr.cell? ⟨gb168, 2, none⟩ = some (.slice A167_2 ((rd_T52 l0 x3_1).f2).length c167_2) := (blk_cell BK168.out 2).trans rfl
                 have hfz89_0 := blk_frozen BK168.out 0
                 have hfz89_1 := blk_frozen BK168.out 1
                 have hfz89_2 := blk_frozen BK168.out 2
                 have p173 : 0 ≤ (x5_3 : Int) := of_decide_eq_true (by first | (with_reducible assumption) | assumption)
                 have q173 : x5_3 < (((rd_T52 l0 x3_1).f2).length : Int) := of_decide_eq_true (by first | (with_reducible assumption) | assumption)
                 obtain ⟨ad173, e173, hx173_0, hx173_1⟩ := at_T56 HR167_2.out x5_3 p173 q173
                 cases e173
                 try (replace hx173_0 := (HB.out.cell (World.block_lt_of_cell? w _ hx173_0)).trans hx173_0)
                 try (replace hx173_1 := (HB.out.cell (World.block_lt_of_cell? w _ hx173_1)).trans hx173_1)
                 replace p173 := eq_true p173
                 replace q173 := eq_true q173
                 try go_wp2_with (first | ((with_reducible refine gate_dst (N := 6) rfl ?_); (try (refine gate_guard (by rfl) ?_; dsimp only)); refine box_event ?hg (N := 6) ?hd (cs := #[.int .i64 0, .string (⟨#[]⟩ : ByteArray)]) (t := 56) ?hr ?_; (case hd => rfl); (case hg => rfl); (case hr => first | (go_simp; done) | (go_simp; rfl)); intro gb174 hg w90 hbox hb; have n0_ := Aside0.mk (blk_below (g := gb168) (qK BK168.out) hb); have n1_ := Aside0.mk (below_step (qG GE168.out) hb); have n2_ := Aside0.mk (hbox); have n3_ := Aside0.mk ((by rw [hg]; exact (below_size (qG GE168.out)) : w.heap.size ≤ gb174)); have n4_ := Aside0.mk ((by rw [hg]; exact (below_size (qG GE168.out)) : w.heap.size ≤ gb174)); have n5_ := Aside0.mk ((by rw [hg]; exact Nat.ne_of_lt (blk_lt (g := gb168) (qK BK168.out)) : gb168 ≠ gb174)); have n6_ := Aside0.mk ((by rw [hg]; exact Nat.ne_of_gt (blk_lt (g := gb168) (qK BK168.out)) : gb174 ≠ gb168)); clear BK168; clear HB; have BK168 := n0_; have HB := n1_; have BK174 := n2_; have GW174 := n3_; have GE174 := n4_; have NB168_174 := n5_; have NB174_168 := n6_; clear n0_ n1_ n2_ n3_ n4_ n5_ n6_; clear hb hbox hg; have hnb91 := NB174_168.out; have hnc91 := NB168_174.out; have hcz92_0 : w90.cell? ⟨gb174, 0, none⟩ = some (.int .i64 0) := (blk_cell BK174.out 0).trans rfl; have hcz92_1 : w90.cell? ⟨gb174, 1, none⟩ = some (.string (⟨#[]⟩ : ByteArray)) := (blk_cell BK174.out 1).trans rfl; have hfz92_0 := blk_frozen BK174.out 0; have hfz92_1 := blk_frozen BK174.out 1))
                 have n0_ : Aside0 (((w90.setCell ⟨gb174, 0, none⟩ (.int .i64 ((rd_T56 ((rd_T52 l0 x3_1).f2) x5_3).f0))).setCell ⟨gb174, 1, none⟩ (.string ((rd_T56 ((rd_T52 l0 x3_1).f2) x5_3).f1))).heap[gb168]? = some (.cells #[.string ((rd_T52 l0 x3_1).f0), .int .i64 ((rd_T52 l0 x3_1).f1), .slice (some ad173) ((rd_T52 l0 x3_1).f2).length c167_2] 52 (0, 0))) := ⟨by (with_reducible repeat (first | refine blk_drewN ?_ _ | refine blk_drew ?_ | refine blk_alloc ?_ _)); refine blk_far ?_ NB168_174.out _; (with_reducible repeat (first | refine blk_drewN ?_ _ | refine blk_drew ?_ | refine blk_alloc ?_ _)); refine blk_far ?_ NB168_174.out _; (with_reducible repeat (first | refine blk_drewN ?_ _ | refine blk_drew ?_ | refine blk_alloc ?_ _)); exact BK168.out⟩
                 have n1_ : Aside0 (((w90.setCell ⟨gb174, 0, none⟩ (.int .i64 ((rd_T56 ((rd_T52 l0 x3_1).f2) x5_3).f0))).setCell ⟨gb174, 1, none⟩ (.string ((rd_T56 ((rd_T52 l0 x3_1).f2) x5_3).f1))).heap[gb174]? = some (.cells #[.int .i64 ((rd_T56 ((rd_T52 l0 x3_1).f2) x5_3).f0), .string ((rd_T56 ((rd_T52 l0 x3_1).f2) x5_3).f1)] 56 (0, 0))) := ⟨by (with_reducible repeat (first | refine blk_drewN ?_ _ | refine blk_drew ?_ | refine blk_alloc ?_ _)); refine blk_put (cs := #[.int .i64 ((rd_T56 ((rd_T52 l0 x3_1).f2) x5_3).f0), .string (⟨#[]⟩ : ByteArray)]) ?_ 1 _ rfl; (with_reducible repeat (first | refine blk_drewN ?_ _ | refine blk_drew ?_ | refine blk_alloc ?_ _)); refine blk_put (cs := #[.int .i64 0, .string (⟨#[]⟩ : ByteArray)]) ?_ 0 _ rfl; (with_reducible repeat (first | refine blk_drewN ?_ _ | refine blk_drew ?_ | refine blk_alloc ?_ _)); exact BK174.out⟩
                 have n2_ : Aside0 (Below w.heap.size w ((w90.setCell ⟨gb174, 0, none⟩ (.int .i64 ((rd_T56 ((rd_T52 l0 x3_1).f2) x5_3).f0))).setCell ⟨gb174, 1, none⟩ (.string ((rd_T56 ((rd_T52 l0 x3_1).f2) x5_3).f1)))) := ⟨by repeat (first | (with_reducible first | exact HB.out | apply below_alloc | apply pw_below_drewN | apply below_drew1 | refine below_set ?_ GE168.out | refine below_set ?_ GE174.out) | exact HB.out)⟩
                 (try clear BK168)
                 (try clear BK174)
                 (try clear HB)
                 generalize ((w90.setCell ⟨gb174, 0, none⟩ (.int .i64 ((rd_T56 ((rd_T52 l0 x3_1).f2) x5_3).f0))).setCell ⟨gb174, 1, none⟩ (.string ((rd_T56 ((rd_T52 l0 x3_1).f2) x5_3).f1))) = w93 at n0_ n1_ n2_ ⊢
                 have BK168 := n0_
                 have BK174 := n1_
                 have HB := n2_
                 clear n0_ n1_ n2_
                 have n0_ := Aside0.mk (blk_drew BK168.out)
                 have n1_ := Aside0.mk (blk_drew BK174.out)
                 have n2_ := Aside0.mk (below_drew1 HB.out)
                 clear BK168
                 clear BK174
                 clear HB
                 have BK168 := n0_
                 have BK174 := n1_
                 have HB := n2_
                 clear n0_ n1_ n2_
                 refine start_ (n := 30) (S := fun w' => w'.cell? ⟨gb174, 0, none⟩ = some (.int .i64 ((rd_T56 ((rd_T52 l0 x3_1).f2) x5_3).f0)) ∧ w'.cell? ⟨gb174, 1, none⟩ = some (.string ((rd_T56 ((rd_T52 l0 x3_1).f2) x5_3).f1))) (ds := []) (tf 30 0) (by kernel_rfl) rfl rfl ⟨(blk_cell BK174.out 0).trans rfl, (blk_cell BK174.out 1).trans rfl⟩ (fun hHeld => ?_); refine with_tabW spec_ProfilesOk.tab13 spec_ProfilesOk.bits13 (fun HT_ HW_ => ?_)
                 generalize w93.drew = w94 at BK168 BK174 HB hHeld ⊢
                 refine qA 0 69 (tf 30 1) ?_
                 refine qT 1 70 (tf 30 3) ?_
                 refine qA 2 71 (tf 30 7) ?_
                 refine qA 3 72 (tf 30 15) ?_
                 refine qA 4 73 (tf 30 31) ?_
                 refine qT 5 74 (tf 30 63) ?_
                 refine qA 6 75 (tf 30 127) ?_
                 refine qA 7 76 (tf 30 255) ?_
                 refine qA 8 77 (tf 30 511) ?_
                 refine qA 9 78 (tf 30 1023) ?_
                 refine qA 10 79 (tf 30 2047) ?_
                 refine qA 11 80 (tf 30 4095) ?_
                 refine qU 12 81 (tf 30 8191) ?_
                 refine qU 13 82 (tf 30 16383) ?_
                 refine qU 14 83 (tf 30 32767) ?_
                 refine qU 15 84 (tf 30 65535) ?_
                 refine qU 16 85 (tf 30 131071) ?_
                 refine qU 17 86 (tf 30 262143) ?_
                 refine qU 18 87 (tf 30 524287) ?_
                 refine qU 19 88 (tf 30 1048575) ?_
                 refine qU 20 89 (tf 30 2097151) ?_
                 refine qU 21 90 (tf 30 4194303) ?_
                 refine qA 22 91 (tf 30 8388607) ?_
                 refine qA 23 92 (tf 30 16777215) ?_
                 refine qA 24 93 (tf 30 33554431) ?_
                 refine qA 25 94 (tf 30 67108863) ?_
                 refine qT 26 95 (tf 30 134217727) ?_
                 refine one_ (i := 27) (N := some 96) (tf 30 268435455) rfl rfl (one_of HT_.out (by kernel_rfl)) (by decide) (fun K hK => ?_)
                 refine goes_ Try.func32 (by kernel_rfl) rfl #[.string ((rd_T56 ((rd_T52 l0 x3_1).f2) x5_3).f1)] (by rfl) rfl rfl (by (try simp only [List.map_toArray, List.map_cons, List.map_nil]); first | done | rfl | (simp only [List.length_drop, List.length_take]; rfl)) ?_
                 with_reducible refine (spec_AddressOk.calls k3 ((rd_T56 ((rd_T52 l0 x3_1).f2) x5_3).f1) false _ A81.out).mono ?_
                 rintro e w' ⟨rfl, ⟨nd, rfl⟩⟩
                 refine ⟨_, rfl, ?_⟩
                 refine hK.out _ _ ⟨(blk_cell BK174.out 0).trans rfl, (blk_cell BK174.out 1).trans rfl⟩ (fun hHeld => ?_)
                 clear hK K
                 refine norm_ (a' := ?_) ?_ ?_
                 rotate_left
                 ·show Act.put _ (some 96) _ = _
                  simp only [Act.put, sT, s0, sS, i64_w, i32_w]
                  rfl
                 refine qA 28 97 (tf 30 536870911) ?_
                 refine qA 29 98 (tf 30 1073741823) ?_
                 refine done_ (done_of HT_.out (by kernel_rfl)) ?_
                 try go_wp2
                 go_ret
                 exact ⟨by first | rfl | (simp [errW_none, errW_some] <;> rfl) | (simp [*, errW_none, errW_some] <;> rfl), by repeat (first | (with_reducible first | exact HB.out | apply below_alloc | apply pw_below_drewN | apply below_drew1 | refine below_set ?_ GE168.out | refine below_set ?_ GE174.out) | exact HB.out)⟩
            ·rw [if_neg c41] at H
             exact absurd H (by simp)
           ·rw [if_neg c40] at H
            have c40b0 : decide (x5_3 < (((rd_T52 l0 x3_1).f2).length : Int)) = false := decide_eq_false c40
            clear c40
            have H' := Aside0.mk H
            clear H
            have hcz95_0 : wr.cell? ⟨gb168, 0, none⟩ = some (.string ((rd_T52 l0 x3_1).f0)) := (blk_cell BK168.out 0).trans rfl
            have hcz95_1 : wr.cell? ⟨gb168, 1, none⟩ = some (.int .i64 ((rd_T52 l0 x3_1).f1)) := (blk_cell BK168.out 1).trans rfl
            have hcz95_2 : wr.cell? ⟨gb168, 2, none⟩ = some (.slice A167_2 ((rd_T52 l0 x3_1).f2).length c167_2) := (blk_cell BK168.out 2).trans rfl
            have hfz95_0 := blk_frozen BK168.out 0
            have hfz95_1 := blk_frozen BK168.out 1
            have hfz95_2 := blk_frozen BK168.out 2
            go_wp2
            go_roundg k3
            case measure => have := HK1.out; have := HJ4.out; have := HK3.out; omega
            case rel => exact ⟨(wrap64 (x3_1 + 1)), (by first | rfl | (simp; done) | (simp [*]; done)), H', ⟨by have := HK1.out; have := HJ4.out; have := HK3.out; omega⟩, ⟨by repeat (first | (with_reducible first | exact HB.out | apply below_alloc | apply pw_below_drewN | apply below_drew1 | refine below_set ?_ GE168.out) | exact HB.out)⟩⟩
     ·rw [if_neg c4] at H
      exact absurd H (by simp)
    ·rw [if_neg c3] at H
     have c3b0 : decide (x3_1 < (l0.length : Int)) = false := decide_eq_false c3
     clear c3
     obtain rfl := Option.some.inj H
     go_wp2
     go_ret
     exact ⟨by first | rfl | (simp [errW_none, errW_some] <;> rfl) | (simp [*, errW_none, errW_some] <;> rfl), by repeat (first | (with_reducible first | exact HB.out | apply below_alloc | apply pw_below_drewN | apply below_drew1) | exact HB.out)⟩

end Go.Proofs.Ytbgnjnlecpdfaaa.PFnExactSwitch
