-- Laid by a program of this session: a turned copy of the kit's print, with contracts by hand beside.
import Derived.Test.YtbgnjnlecpdfaaaPFnExactSwitchx0
import Derived.Test.YtbgnjnlecpdfaaaPFnExactSwitchx9
namespace Go.Proofs.Ytbgnjnlecpdfaaa.PFnExactSwitch
open Go.RowKit Go.Proofs.YtbgnjnlecpdfaaaW.PrintWords Go.Proofs.YtbgnjnlecpdfaaaW.PrintLast Go.Proofs.YtbgnjnlecpdfaaaW.PrintMore
attribute [local go_sem] max2_int min2_int max_two min_two max_three min_three max_four min_four   -- for this text's walks alone
set_option linter.unusedVariables false
set_option linter.unusedSimpArgs false

/-! ### impl_ProfilesOk: function 12 -/
mutual
def impl_ProfilesOk.l0 : Nat → List (S52) → List (S52) → Int → Int → Option (Bool)
 | 0, _, _, _, _ => none
 | k + 1, x0, x11, x12, x13 => if x13 < x12 then (if 0 ≤ x13 then (if x13 < (x11.length : Int) then ((impl_NameOk.f k ((rd_T52 x11 x13).f0)).bind fun t205 => (if t205 = true then (if x13 > 0 then (if 0 ≤ (wrap64 (x13 - 1)) then (if (wrap64 (x13 - 1)) < (x0.length : Int) then (if ((Op.bytesLess (((rd_T52 x0 (wrap64 (x13 - 1))).f0).toList) (((rd_T52 x11 x13).f0).toList)) = true) then (impl_ProfilesOk.j1 k x0 x11 x12 x13 (decide ((((rd_T52 x11 x13).f2).length : Int) > 50)) ((rd_T52 x11 x13).f0) ((rd_T52 x11 x13).f1) ((rd_T52 x11 x13).f2)) else (impl_ProfilesOk.j1 k x0 x11 x12 x13 true ((rd_T52 x11 x13).f0) ((rd_T52 x11 x13).f1) ((rd_T52 x11 x13).f2))) else (none)) else (none)) else (impl_ProfilesOk.j1 k x0 x11 x12 x13 (decide ((((rd_T52 x11 x13).f2).length : Int) > 50)) ((rd_T52 x11 x13).f0) ((rd_T52 x11 x13).f1) ((rd_T52 x11 x13).f2))) else (impl_ProfilesOk.j1 k x0 x11 x12 x13 true ((rd_T52 x11 x13).f0) ((rd_T52 x11 x13).f1) ((rd_T52 x11 x13).f2)))) else (none)) else (none)) else (some true)
def impl_ProfilesOk.j1 : Nat → List (S52) → List (S52) → Int → Int → Bool → ByteArray → Int → List (S56) → Option (Bool)
 | 0, _, _, _, _, _, _, _, _ => none
 | k + 1, x0, x11, x12, x13, x42, x205000, x205001, x205002 => if x42 = true then (some false) else (impl_ProfilesOk.l1 k x0 (x205001 == 0) x11 x12 x13 x205002 (x205002.length : Int) 0 x205000 x205001 x205002)
def impl_ProfilesOk.l1 : Nat → List (S52) → Bool → List (S52) → Int → Int → List (S56) → Int → Int → ByteArray → Int → List (S56) → Option (Bool)
 | 0, _, _, _, _, _, _, _, _, _, _, _ => none
 | k + 1, x0, x5, x11, x12, x13, x47, x48, x49, x205000, x205001, x205002 => if x49 < x48 then (if 0 ≤ x49 then (if x49 < (x47.length : Int) then (if ((rd_T56 x47 x49).f0) < 1 then (some false) else (if ((rd_T56 x47 x49).f0) > 9007199254740992 then (some false) else ((impl_AddressOk.f k ((rd_T56 x47 x49).f1)).bind fun t209 => (if t209 = true then (if x49 > 0 then (if 0 ≤ (wrap64 (x49 - 1)) then (if (wrap64 (x49 - 1)) < (x205002.length : Int) then (if ((rd_T56 x205002 (wrap64 (x49 - 1))).f0) ≥ ((rd_T56 x47 x49).f0) then (some false) else (if x5 = true then (impl_ProfilesOk.l1 k x0 true x11 x12 x13 x47 x48 (wrap64 (x49 + 1)) x205000 x205001 x205002) else (impl_ProfilesOk.l1 k x0 (((rd_T56 x47 x49).f0) == x205001) x11 x12 x13 x47 x48 (wrap64 (x49 + 1)) x205000 x205001 x205002))) else (none)) else (none)) else (if x5 = true then (impl_ProfilesOk.l1 k x0 true x11 x12 x13 x47 x48 (wrap64 (x49 + 1)) x205000 x205001 x205002) else (impl_ProfilesOk.l1 k x0 (((rd_T56 x47 x49).f0) == x205001) x11 x12 x13 x47 x48 (wrap64 (x49 + 1)) x205000 x205001 x205002))) else (some false))))) else (none)) else (none)) else (if x5 = true then (impl_ProfilesOk.l0 k x0 x11 x12 (wrap64 (x13 + 1))) else (some false))
end
def impl_ProfilesOk.f (k : Nat) (l0 : List (S52)) : Option (Bool) := if (l0.length : Int) > 20 then (some false) else (impl_ProfilesOk.l0 k l0 l0 (l0.length : Int) 0)
theorem impl_ProfilesOk.mono_l : ∀ k, (∀ y0 y1 y2 y3, LeO (impl_ProfilesOk.l0 k y0 y1 y2 y3) (impl_ProfilesOk.l0 (k + 1) y0 y1 y2 y3)) ∧ (∀ y0 y1 y2 y3 y4 y5 y6 y7, LeO (impl_ProfilesOk.j1 k y0 y1 y2 y3 y4 y5 y6 y7) (impl_ProfilesOk.j1 (k + 1) y0 y1 y2 y3 y4 y5 y6 y7)) ∧ (∀ y0 y1 y2 y3 y4 y5 y6 y7 y8 y9 y10, LeO (impl_ProfilesOk.l1 k y0 y1 y2 y3 y4 y5 y6 y7 y8 y9 y10) (impl_ProfilesOk.l1 (k + 1) y0 y1 y2 y3 y4 y5 y6 y7 y8 y9 y10))
 | 0 => ⟨fun _ _ _ _ r h => by simp [impl_ProfilesOk.l0] at h, fun _ _ _ _ _ _ _ _ r h => by simp [impl_ProfilesOk.j1] at h, fun _ _ _ _ _ _ _ _ _ _ _ r h => by simp [impl_ProfilesOk.l1] at h⟩
 | k + 1 => by
  obtain ⟨ih0, ih1, ih2⟩ := impl_ProfilesOk.mono_l k
  refine ⟨?_, ?_, ?_⟩
  ·intro y0 y1 y2 y3
   unfold impl_ProfilesOk.l0
   repeat' first
   | (with_reducible exact ih0 _ _ _ _)
   | (with_reducible exact ih1 _ _ _ _ _ _ _ _)
   | (with_reducible exact ih2 _ _ _ _ _ _ _ _ _ _ _)
   | (with_reducible exact impl_AddressOk.mono _ _)
   | (with_reducible exact impl_NameOk.mono _ _)
   | (with_reducible exact LeO.refl _)
   | (with_reducible exact LeO.none _)
   | (with_reducible refine LeO.ite ?_ ?_)
   | (with_reducible refine LeO.bind ?_ (fun _ => ?_))
   | exact ih0 _ _ _ _
   | exact ih1 _ _ _ _ _ _ _ _
   | exact ih2 _ _ _ _ _ _ _ _ _ _ _
   | exact impl_AddressOk.mono _ _
   | exact impl_NameOk.mono _ _
   | exact LeO.none _
   | refine LeO.ite ?_ ?_
   | refine LeO.bind ?_ (fun _ => ?_)
  ·intro y0 y1 y2 y3 y4 y5 y6 y7
   unfold impl_ProfilesOk.j1
   repeat' first
   | (with_reducible exact ih0 _ _ _ _)
   | (with_reducible exact ih1 _ _ _ _ _ _ _ _)
   | (with_reducible exact ih2 _ _ _ _ _ _ _ _ _ _ _)
   | (with_reducible exact impl_AddressOk.mono _ _)
   | (with_reducible exact impl_NameOk.mono _ _)
   | (with_reducible exact LeO.refl _)
   | (with_reducible exact LeO.none _)
   | (with_reducible refine LeO.ite ?_ ?_)
   | (with_reducible refine LeO.bind ?_ (fun _ => ?_))
   | exact ih0 _ _ _ _
   | exact ih1 _ _ _ _ _ _ _ _
   | exact ih2 _ _ _ _ _ _ _ _ _ _ _
   | exact impl_AddressOk.mono _ _
   | exact impl_NameOk.mono _ _
   | exact LeO.none _
   | refine LeO.ite ?_ ?_
   | refine LeO.bind ?_ (fun _ => ?_)
  ·intro y0 y1 y2 y3 y4 y5 y6 y7 y8 y9 y10
   unfold impl_ProfilesOk.l1
   repeat' first
   | (with_reducible exact ih0 _ _ _ _)
   | (with_reducible exact ih1 _ _ _ _ _ _ _ _)
   | (with_reducible exact ih2 _ _ _ _ _ _ _ _ _ _ _)
   | (with_reducible exact impl_AddressOk.mono _ _)
   | (with_reducible exact impl_NameOk.mono _ _)
   | (with_reducible exact LeO.refl _)
   | (with_reducible exact LeO.none _)
   | (with_reducible refine LeO.ite ?_ ?_)
   | (with_reducible refine LeO.bind ?_ (fun _ => ?_))
   | exact ih0 _ _ _ _
   | exact ih1 _ _ _ _ _ _ _ _
   | exact ih2 _ _ _ _ _ _ _ _ _ _ _
   | exact impl_AddressOk.mono _ _
   | exact impl_NameOk.mono _ _
   | exact LeO.none _
   | refine LeO.ite ?_ ?_
   | refine LeO.bind ?_ (fun _ => ?_)
theorem impl_ProfilesOk.mono : ∀ a0 k, LeO (impl_ProfilesOk.f k a0) (impl_ProfilesOk.f (k + 1) a0) := by
 intro a0 k
 obtain ⟨ih0, ih1, ih2⟩ := impl_ProfilesOk.mono_l k
 unfold impl_ProfilesOk.f
 repeat' first
   | (with_reducible exact ih0 _ _ _ _)
   | (with_reducible exact ih1 _ _ _ _ _ _ _ _)
   | (with_reducible exact ih2 _ _ _ _ _ _ _ _ _ _ _)
   | (with_reducible exact impl_AddressOk.mono _ _)
   | (with_reducible exact impl_NameOk.mono _ _)
   | (with_reducible exact LeO.refl _)
   | (with_reducible exact LeO.none _)
   | (with_reducible refine LeO.ite ?_ ?_)
   | (with_reducible refine LeO.bind ?_ (fun _ => ?_))
   | exact ih0 _ _ _ _
   | exact ih1 _ _ _ _ _ _ _ _
   | exact ih2 _ _ _ _ _ _ _ _ _ _ _
   | exact impl_AddressOk.mono _ _
   | exact impl_NameOk.mono _ _
   | exact LeO.none _
   | refine LeO.ite ?_ ?_
   | refine LeO.bind ?_ (fun _ => ?_)
def impl_ProfilesOk.T6 : Bool × List (List Nat × List Nat) := (true, [([], []), ([0], [0]), ([1], [1]), ([2], [2]), ([3, 2], [3]), ([4], [4]), ([5, 4], [4, 5]), ([6, 4, 4], [4, 6]), ([7], [7]), ([7], [7]), ([9, 7], [7, 9]), ([8, 10, 7], [7, 8, 10]), ([11, 7], [7, 11]), ([12, 7], [7, 12]), ([7], [7]), ([14, 7], [7, 14]), ([13, 15, 7], [7, 13, 15]), ([7, 16, 4], [4, 7, 16]), ([4, 17], [4, 17]), ([18, 7], [18]), ([19], [19]), ([20, 19], [19, 20]), ([21, 19], [19, 21]), ([22, 19], [19, 22]), ([19, 23], [19, 23])])
def impl_ProfilesOk.B6 : List Nat := [0, 1, 3, 7, 15, 31, 63, 127, 255, 255, 767, 2047, 4095, 8191, 255, 16639, 65535, 131071, 262143, 524287, 1048575, 2097151, 4194303, 8388607, 16777215]
theorem impl_ProfilesOk.tab6 : rtab .any (opsOf Try.f12 6) = impl_ProfilesOk.T6 := by kernel_rfl
theorem impl_ProfilesOk.bits6 : waitsOk impl_ProfilesOk.T6.2 impl_ProfilesOk.B6 = true := by kernel_rfl
def impl_ProfilesOk.T12 : Bool × List (List Nat × List Nat) := (true, [([], []), ([0], [0]), ([1], [1]), ([2], [2]), ([3], [3]), ([4, 3], [3, 4]), ([5, 3], [3, 5]), ([3, 6], [3, 6]), ([7, 3], [7]), ([8], [8]), ([9, 8], [8, 9]), ([10, 8, 8], [8, 10]), ([11, 8], [8, 11]), ([8, 12], [8, 12]), ([13, 11], [13]), ([14], [14]), ([15, 14], [14, 15]), ([16, 14, 14], [14, 16]), ([17], [17]), ([18, 17], [17, 18]), ([17], [17]), ([20, 17], [17, 20]), ([19, 21, 17], [17, 19, 21]), ([22, 17], [17, 22]), ([23, 17], [17, 23]), ([17], [17]), ([25, 17], [17, 25]), ([24, 26, 17], [17, 24, 26]), ([17, 27, 14], [14, 17, 27]), ([14, 28], [14, 28])])
def impl_ProfilesOk.B12 : List Nat := [0, 1, 3, 7, 15, 31, 63, 127, 255, 511, 1023, 2047, 4095, 8191, 16383, 32767, 65535, 131071, 262143, 524287, 262143, 1310719, 4194303, 8388607, 16777215, 262143, 33816575, 134217727, 268435455, 536870911]
theorem impl_ProfilesOk.tab12 : rtab .any (opsOf Try.f12 12) = impl_ProfilesOk.T12 := by kernel_rfl
theorem impl_ProfilesOk.bits12 : waitsOk impl_ProfilesOk.T12.2 impl_ProfilesOk.B12 = true := by kernel_rfl
set_option maxHeartbeats 8000000 in
set_option maxRecDepth 100000 in
theorem impl_ProfilesOk.calls (k : Nat) (A0 : Option Addr) (c0 : Nat) (l0 : List (S52)) (r : Bool) (w : World) (hr0 : Kd.C k52 w A0 l0.length l0) (hc0 : l0.length ≤ c0) (h : impl_ProfilesOk.f k l0 = some r) :
  Calls Try.prog 12 #[.slice A0 l0.length c0] w fun e w' => e = .returned (.bool r) ∧ Below w.heap.size w w' := by
 have hu52 := Try.underlying52
 have hu56 := Try.underlying56
 have HR0 := Aside0.mk hr0
 have HC0 := Aside0.mk hc0
 clear hr0 hc0
 have HB := Aside0.mk (Below.refl w.heap.size w)
 have H : (if (l0.length : Int) > 20 then (some false) else (impl_ProfilesOk.l0 k l0 l0 (l0.length : Int) 0)) = some r := h
 clear h
 by_cases c2 : (l0.length : Int) > 20
 ·rw [if_pos c2] at H
  have c2b0 : decide (20 < (l0.length : Int)) = true := decide_eq_true c2
  have c2b1 : decide (20 < l0.length) = true := decide_eq_true (by omega)
  clear c2
  obtain rfl := Option.some.inj H
  go_enter Try.func12, Try.ntmps12
  go_wp2
  go_ret
  exact ⟨by first | rfl | (simp [errW_none, errW_some] <;> rfl) | (simp [*, errW_none, errW_some] <;> rfl), by repeat (first | (with_reducible first | exact HB.out | apply below_alloc | apply pw_below_drewN | apply below_drew1) | exact HB.out)⟩
 ·rw [if_neg c2] at H
  have c2b0 : decide (20 < (l0.length : Int)) = false := decide_eq_false c2
  have c2b1 : decide (20 < l0.length) = false := decide_eq_false (by omega)
  clear c2
  have H' := Aside0.mk H
  clear H
  go_enter Try.func12, Try.ntmps12
  go_wp2
  go_loopg [13] k (fun kq v13 w' => ∃ (x13_1 : Int), v13 = .int .i64 x13_1 ∧ Aside0 (impl_ProfilesOk.l0 kq l0 l0 (l0.length : Int) x13_1 = some r) ∧ Aside0 (kq ≤ k) ∧ Aside0 (Below w.heap.size w w'))
  case atStart => exact ⟨(0), (by first | rfl | (simp; done) | (simp [*]; done)), H', ⟨Nat.le_refl _⟩, ⟨by repeat (first | (with_reducible first | exact HB.out | apply below_alloc | apply pw_below_drewN | apply below_drew1) | exact HB.out)⟩⟩
  case round =>
   clear H'
   try clear c1
   try clear c2
   try clear c2b0
   try clear c2b1
   try clear p2
   obtain ⟨x13_1, rfl, HA, HK1, HB⟩ := hrel
   cases gk with
   | zero => exact absurd HA.out (by simp [impl_ProfilesOk.l0])
   | succ k1 =>
    have H := HA.out
    clear HA
    simp only [impl_ProfilesOk.l0] at H
    by_cases c3 : x13_1 < (l0.length : Int)
    ·rw [if_pos c3] at H
     have c3b0 : decide (x13_1 < (l0.length : Int)) = true := decide_eq_true c3
     clear c3
     by_cases c4 : 0 ≤ x13_1
     ·rw [if_pos c4] at H
      have c4b0 : decide (0 ≤ x13_1) = true := decide_eq_true c4
      clear c4
      by_cases c5 : x13_1 < (l0.length : Int)
      ·rw [if_pos c5] at H
       have c5b0 : decide (x13_1 < (l0.length : Int)) = true := decide_eq_true c5
       clear c5
       have HC6 := Aside0.mk H
       clear H
       have p203 : 0 ≤ (x13_1 : Int) := of_decide_eq_true (by first | (with_reducible assumption) | assumption)
       have q203 : x13_1 < (l0.length : Int) := of_decide_eq_true (by first | (with_reducible assumption) | assumption)
       obtain ⟨ad203, A203_2, c203_2, e203, hx203_0, hx203_1, hx203_2, hl203_2, hi203_2⟩ := at_T52 HR0.out x13_1 p203 q203
       cases e203
       try (replace hx203_0 := (HB.out.cell (World.block_lt_of_cell? w _ hx203_0)).trans hx203_0)
       try (replace hx203_1 := (HB.out.cell (World.block_lt_of_cell? w _ hx203_1)).trans hx203_1)
       try (replace hx203_2 := (HB.out.cell (World.block_lt_of_cell? w _ hx203_2)).trans hx203_2)
       have HR203_2 := Aside0.mk hi203_2
       have HC203_2 := Aside0.mk hl203_2
       clear hi203_2 hl203_2
       replace p203 := eq_true p203
       replace q203 := eq_true q203
       go_upto_region 6 with (first | ((with_reducible refine gate_dst (N := 4) rfl ?_); (try (refine gate_guard (by rfl) ?_; dsimp only)); refine box_event ?hg (N := 4) ?hd (cs := #[.string (⟨#[]⟩ : ByteArray), .int .i64 0, .slice none 0 0]) (t := 52) ?hr ?_; (case hd => rfl); (case hg => rfl); (case hr => first | (go_simp; done) | (go_simp; rfl)); intro gb204 hg w7 hbox hb; have n0_ := Aside0.mk (below_step qB hb); have n1_ := Aside0.mk (hbox); have n2_ := Aside0.mk ((by rw [hg]; exact (below_size qB) : w.heap.size ≤ gb204)); have n3_ := Aside0.mk ((by rw [hg]; exact (below_size qB) : w.heap.size ≤ gb204)); clear HB; have HB := n0_; have BK204 := n1_; have GW204 := n2_; have GE204 := n3_; clear n0_ n1_ n2_ n3_; clear hb hbox hg; have hcz8_0 : w7.cell? ⟨gb204, 0, none⟩ = some (.string (⟨#[]⟩ : ByteArray)) := (blk_cell BK204.out 0).trans rfl; have hcz8_1 : w7.cell? ⟨gb204, 1, none⟩ = some (.int .i64 0) := (blk_cell BK204.out 1).trans rfl; have hcz8_2 : w7.cell? ⟨gb204, 2, none⟩ = some (.slice none 0 0) := (blk_cell BK204.out 2).trans rfl; have hfz8_0 := blk_frozen BK204.out 0; have hfz8_1 := blk_frozen BK204.out 1; have hfz8_2 := blk_frozen BK204.out 2))
       (try simp only [Act.put, List.setIfInBounds_toArray, List.set_cons_zero, List.set_cons_succ])
       go_cut [42] (fun v42 wc => ∃ (kq : Nat) (x42_5 : Bool), v42 = .bool x42_5 ∧ Aside0 (impl_ProfilesOk.j1 kq l0 l0 (l0.length : Int) x13_1 x42_5 ((rd_T52 l0 x13_1).f0) ((rd_T52 l0 x13_1).f1) ((rd_T52 l0 x13_1).f2) = some r) ∧ Aside0 (kq ≤ k1) ∧ Aside0 (wc.heap[gb204]? = some (.cells #[.string ((rd_T52 l0 x13_1).f0), .int .i64 ((rd_T52 l0 x13_1).f1), (.slice A203_2 ((rd_T52 l0 x13_1).f2).length c203_2)] 52 (0, 0))) ∧ Aside0 (Below w.heap.size w wc))
       case first =>
        have H := HC6.out
        clear HC6
        replace H := Option.bind_eq_some_iff.mp H
        obtain ⟨t205, A90, H⟩ := H
        replace H : (if t205 = true then (if x13_1 > 0 then (if 0 ≤ (wrap64 (x13_1 - 1)) then (if (wrap64 (x13_1 - 1)) < (l0.length : Int) then (if ((Op.bytesLess (((rd_T52 l0 (wrap64 (x13_1 - 1))).f0).toList) (((rd_T52 l0 x13_1).f0).toList)) = true) then (impl_ProfilesOk.j1 k1 l0 l0 (l0.length : Int) x13_1 (decide ((((rd_T52 l0 x13_1).f2).length : Int) > 50)) ((rd_T52 l0 x13_1).f0) ((rd_T52 l0 x13_1).f1) ((rd_T52 l0 x13_1).f2)) else (impl_ProfilesOk.j1 k1 l0 l0 (l0.length : Int) x13_1 true ((rd_T52 l0 x13_1).f0) ((rd_T52 l0 x13_1).f1) ((rd_T52 l0 x13_1).f2))) else (none)) else (none)) else (impl_ProfilesOk.j1 k1 l0 l0 (l0.length : Int) x13_1 (decide ((((rd_T52 l0 x13_1).f2).length : Int) > 50)) ((rd_T52 l0 x13_1).f0) ((rd_T52 l0 x13_1).f1) ((rd_T52 l0 x13_1).f2))) else (impl_ProfilesOk.j1 k1 l0 l0 (l0.length : Int) x13_1 true ((rd_T52 l0 x13_1).f0) ((rd_T52 l0 x13_1).f1) ((rd_T52 l0 x13_1).f2))) = some r := H
        have A9 := Aside0.mk A90
        clear A90
        by_cases c10 : t205 = true
        ·subst c10
         have H1 : (if x13_1 > 0 then (if 0 ≤ (wrap64 (x13_1 - 1)) then (if (wrap64 (x13_1 - 1)) < (l0.length : Int) then (if ((Op.bytesLess (((rd_T52 l0 (wrap64 (x13_1 - 1))).f0).toList) (((rd_T52 l0 x13_1).f0).toList)) = true) then (impl_ProfilesOk.j1 k1 l0 l0 (l0.length : Int) x13_1 (decide ((((rd_T52 l0 x13_1).f2).length : Int) > 50)) ((rd_T52 l0 x13_1).f0) ((rd_T52 l0 x13_1).f1) ((rd_T52 l0 x13_1).f2)) else (impl_ProfilesOk.j1 k1 l0 l0 (l0.length : Int) x13_1 true ((rd_T52 l0 x13_1).f0) ((rd_T52 l0 x13_1).f1) ((rd_T52 l0 x13_1).f2))) else (none)) else (none)) else (impl_ProfilesOk.j1 k1 l0 l0 (l0.length : Int) x13_1 (decide ((((rd_T52 l0 x13_1).f2).length : Int) > 50)) ((rd_T52 l0 x13_1).f0) ((rd_T52 l0 x13_1).f1) ((rd_T52 l0 x13_1).f2))) = some r := by rw [if_pos rfl] at H; exact H
         clear H
         have H := H1
         clear H1
         by_cases c11 : x13_1 > 0
         ·rw [if_pos c11] at H
          have c11b0 : decide (0 < x13_1) = true := decide_eq_true c11
          clear c11
          (first | rw [c11b0] | (simp only [i64_w, i32_w]; rw [c11b0]) | skip)
          obtain ⟨ji12, hji12⟩ : ∃ j_ : Int, (wrap64 (x13_1 - 1)) = j_ := ⟨_, rfl⟩
          replace H : (if 0 ≤ (ji12) then (if (ji12) < (l0.length : Int) then (if ((Op.bytesLess (((rd_T52 l0 (ji12)).f0).toList) (((rd_T52 l0 x13_1).f0).toList)) = true) then (impl_ProfilesOk.j1 k1 l0 l0 (l0.length : Int) x13_1 (decide ((((rd_T52 l0 x13_1).f2).length : Int) > 50)) ((rd_T52 l0 x13_1).f0) ((rd_T52 l0 x13_1).f1) ((rd_T52 l0 x13_1).f2)) else (impl_ProfilesOk.j1 k1 l0 l0 (l0.length : Int) x13_1 true ((rd_T52 l0 x13_1).f0) ((rd_T52 l0 x13_1).f1) ((rd_T52 l0 x13_1).f2))) else (none)) else (none)) = some r := by first | (rw [hji12] at H; exact H) | (simp only [hji12] at H ⊢; exact H)
          (try rw [hji12] at A9)
          have hji12w : (IntKind.i64.wrap (x13_1 - 1)) = ji12 := (i64_w _).trans hji12
          by_cases c13 : 0 ≤ (ji12)
          ·rw [if_pos c13] at H
           have c13b0 : decide (0 ≤ (ji12)) = true := decide_eq_true c13
           clear c13
           by_cases c14 : (ji12) < (l0.length : Int)
           ·rw [if_pos c14] at H
            have c14b0 : decide ((ji12) < (l0.length : Int)) = true := decide_eq_true c14
            clear c14
            by_cases c15 : ((Op.bytesLess (((rd_T52 l0 (ji12)).f0).toList) (((rd_T52 l0 x13_1).f0).toList)) = true)
            ·rw [if_pos c15] at H
             have c15b0 : (Op.bytesLess (((rd_T52 l0 (ji12)).f0).toList) (((rd_T52 l0 x13_1).f0).toList)) = true := c15
             clear c15
             have H' := Aside0.mk H
             clear H
             try go_wp2
             have n0_ : Aside0 ((((w7.setCell ⟨gb204, 0, none⟩ (.string ((rd_T52 l0 x13_1).f0))).setCell ⟨gb204, 1, none⟩ (.int .i64 ((rd_T52 l0 x13_1).f1))).setCell ⟨gb204, 2, none⟩ (.slice A203_2 ((rd_T52 l0 x13_1).f2).length c203_2)).heap[gb204]? = some (.cells #[.string ((rd_T52 l0 x13_1).f0), .int .i64 ((rd_T52 l0 x13_1).f1), .slice A203_2 ((rd_T52 l0 x13_1).f2).length c203_2] 52 (0, 0))) := ⟨by (with_reducible repeat (first | refine blk_drewN ?_ _ | refine blk_drew ?_ | refine blk_alloc ?_ _)); refine blk_put (cs := #[.string ((rd_T52 l0 x13_1).f0), .int .i64 ((rd_T52 l0 x13_1).f1), .slice none 0 0]) ?_ 2 _ rfl; (with_reducible repeat (first | refine blk_drewN ?_ _ | refine blk_drew ?_ | refine blk_alloc ?_ _)); refine blk_put (cs := #[.string ((rd_T52 l0 x13_1).f0), .int .i64 0, .slice none 0 0]) ?_ 1 _ rfl; (with_reducible repeat (first | refine blk_drewN ?_ _ | refine blk_drew ?_ | refine blk_alloc ?_ _)); refine blk_put (cs := #[.string (⟨#[]⟩ : ByteArray), .int .i64 0, .slice none 0 0]) ?_ 0 _ rfl; (with_reducible repeat (first | refine blk_drewN ?_ _ | refine blk_drew ?_ | refine blk_alloc ?_ _)); exact BK204.out⟩
             have n1_ : Aside0 (Below w.heap.size w (((w7.setCell ⟨gb204, 0, none⟩ (.string ((rd_T52 l0 x13_1).f0))).setCell ⟨gb204, 1, none⟩ (.int .i64 ((rd_T52 l0 x13_1).f1))).setCell ⟨gb204, 2, none⟩ (.slice A203_2 ((rd_T52 l0 x13_1).f2).length c203_2))) := ⟨by repeat (first | (with_reducible first | exact HB.out | apply below_alloc | apply pw_below_drewN | apply below_drew1 | refine below_set ?_ GE204.out) | exact HB.out)⟩
             (try clear BK204)
             (try clear HB)
             generalize (((w7.setCell ⟨gb204, 0, none⟩ (.string ((rd_T52 l0 x13_1).f0))).setCell ⟨gb204, 1, none⟩ (.int .i64 ((rd_T52 l0 x13_1).f1))).setCell ⟨gb204, 2, none⟩ (.slice A203_2 ((rd_T52 l0 x13_1).f2).length c203_2)) = w16 at n0_ n1_ ⊢
             have BK204 := n0_
             have HB := n1_
             clear n0_ n1_
             have n0_ := Aside0.mk (blk_drew BK204.out)
             have n1_ := Aside0.mk (below_drew1 HB.out)
             clear BK204
             clear HB
             have BK204 := n0_
             have HB := n1_
             clear n0_ n1_
             have p206 : 0 ≤ ((ji12) : Int) := of_decide_eq_true (by first | (with_reducible assumption) | assumption)
             have q206 : (ji12) < (l0.length : Int) := of_decide_eq_true (by first | (with_reducible assumption) | assumption)
             obtain ⟨ad206, A206_2, c206_2, e206, hx206_0, hx206_1, hx206_2, hl206_2, hi206_2⟩ := at_T52 HR0.out (ji12) p206 q206
             have hw206_2 := hx206_2
             have hw206_1 := hx206_1
             have hw206_0 := hx206_0
             obtain rfl : ad203 = ad206 := (by injection e206)
             try (replace hx206_0 := (HB.out.cell (World.block_lt_of_cell? w _ hx206_0)).trans hx206_0)
             try (replace hx206_1 := (HB.out.cell (World.block_lt_of_cell? w _ hx206_1)).trans hx206_1)
             try (replace hx206_2 := (HB.out.cell (World.block_lt_of_cell? w _ hx206_2)).trans hx206_2)
             have HR206_2 := Aside0.mk hi206_2
             have HC206_2 := Aside0.mk hl206_2
             clear hi206_2 hl206_2
             replace p206 := eq_true p206
             replace q206 := eq_true q206
             refine start_ (n := 25) (S := fun w' => w'.cell? ⟨gb204, 0, none⟩ = some (.string ((rd_T52 l0 x13_1).f0)) ∧ w'.cell? ⟨gb204, 1, none⟩ = some (.int .i64 ((rd_T52 l0 x13_1).f1)) ∧ w'.cell? ⟨gb204, 2, none⟩ = some (.slice A203_2 ((rd_T52 l0 x13_1).f2).length c203_2) ∧ w'.cell? (ad203.add (((ji12)).toNat * 3)) = some (.string ((rd_T52 l0 (ji12)).f0)) ∧ w'.cell? ⟨(ad203.add (((ji12)).toNat * 3)).block, (ad203.add (((ji12)).toNat * 3)).off + 1, none⟩ = some (.int .i64 ((rd_T52 l0 (ji12)).f1)) ∧ w'.cell? ⟨(ad203.add (((ji12)).toNat * 3)).block, (ad203.add (((ji12)).toNat * 3)).off + 2, none⟩ = some (.slice A206_2 ((rd_T52 l0 (ji12)).f2).length c206_2)) (ds := []) (tf 25 0) (by kernel_rfl) rfl rfl ⟨(blk_cell BK204.out 0).trans rfl, (blk_cell BK204.out 1).trans rfl, (blk_cell BK204.out 2).trans rfl, ((HB.out.cell (World.block_lt_of_cell? w _ hw206_0)).trans hw206_0), ((HB.out.cell (World.block_lt_of_cell? w _ hw206_1)).trans hw206_1), ((HB.out.cell (World.block_lt_of_cell? w _ hw206_2)).trans hw206_2)⟩ (fun hHeld => ?_); refine with_tabW impl_ProfilesOk.tab6 impl_ProfilesOk.bits6 (fun HT_ HW_ => ?_)
             generalize w16.drew = w17 at BK204 HB HR206_2 hx206_0 hx206_1 hx206_2 hHeld ⊢
             refine qA 0 18 (tf 25 1) ?_
             refine qT 1 19 (tf 25 3) ?_
             refine one_ (i := 2) (N := some 20) (tf 25 7) rfl rfl (one_of HT_.out (by kernel_rfl)) (by decide) (fun K hK => ?_)
             refine goes_ Try.func34 (by kernel_rfl) rfl #[.string ((rd_T52 l0 x13_1).f0)] (by rfl) rfl rfl (by (try simp only [List.map_toArray, List.map_cons, List.map_nil]); first | done | rfl | (simp only [List.length_drop, List.length_take]; rfl)) ?_
             with_reducible refine (impl_NameOk.calls k1 ((rd_T52 l0 x13_1).f0) true _ A9.out).mono ?_
             rintro e w' ⟨rfl, ⟨nd, rfl⟩⟩
             refine ⟨_, rfl, ?_⟩
             refine hK.out _ _ ⟨(blk_cell BK204.out 0).trans rfl, (blk_cell BK204.out 1).trans rfl, (blk_cell BK204.out 2).trans rfl, ((HB.out.cell (World.block_lt_of_cell? w _ hw206_0)).trans hw206_0), ((HB.out.cell (World.block_lt_of_cell? w _ hw206_1)).trans hw206_1), ((HB.out.cell (World.block_lt_of_cell? w _ hw206_2)).trans hw206_2)⟩ (fun hHeld => ?_)
             clear hK K
             refine norm_ (a' := ?_) ?_ ?_
             rotate_left
             ·show Act.put _ (some 20) _ = _
              simp only [Act.put, sT, s0, sS, i64_w, i32_w]
              rfl
             refine qA 3 21 (tf 25 15) ?_
             refine qA 4 22 (tf 25 31) ?_
             refine qA 5 23 (tf 25 63) ?_
             refine qA 6 24 (tf 25 127) ?_
             refine qA 7 25 (tf 25 255) ?_
             refine qA 8 26 (tf 25 511) ?_
             refine qA 9 27 (tf 25 1023) ?_
             refine qA 10 28 (tf 25 2047) ?_
             refine qA 11 29 (tf 25 4095) ?_
             refine qA 12 30 (tf 25 8191) ?_
             refine qA 14 32 (tf 25 24575) ?_
             refine qT 13 31 (tf 25 32767) ?_
             refine qT 15 33 (tf 25 65535) ?_
             refine qA 16 34 (tf 25 131071) ?_
             refine qA 17 35 (tf 25 262143) ?_
             refine qA 18 36 (tf 25 524287) ?_
             refine qA 19 37 (tf 25 1048575) ?_
             refine qA 20 38 (tf 25 2097151) ?_
             refine qT 21 39 (tf 25 4194303) ?_
             refine qA 22 40 (tf 25 8388607) ?_
             refine qA 23 41 (tf 25 16777215) ?_
             refine qA 24 42 (tf 25 33554431) ?_
             refine done_ (done_of HT_.out (by kernel_rfl)) ?_
             try go_wp2
             go_meet
             case rel => exact ⟨_, (decide ((((rd_T52 l0 x13_1).f2).length : Int) > 50)), (by first | rfl | (simp; done) | (simp [*]; done)), H', ⟨by have := HK1.out; first | omega | exact Nat.le_refl _⟩, ⟨by (with_reducible repeat (first | refine blk_drewN ?_ _ | refine blk_drew ?_ | refine blk_alloc ?_ _)); exact BK204.out⟩, ⟨by repeat (first | (with_reducible first | exact HB.out | apply below_alloc | apply pw_below_drewN | apply below_drew1 | refine below_set ?_ GE204.out) | exact HB.out)⟩⟩
            ·rw [if_neg c15] at H
             have c15b0 : (Op.bytesLess (((rd_T52 l0 (ji12)).f0).toList) (((rd_T52 l0 x13_1).f0).toList)) = false := by simpa using c15
             clear c15
             have H' := Aside0.mk H
             clear H
             try go_wp2
             have n0_ : Aside0 ((((w7.setCell ⟨gb204, 0, none⟩ (.string ((rd_T52 l0 x13_1).f0))).setCell ⟨gb204, 1, none⟩ (.int .i64 ((rd_T52 l0 x13_1).f1))).setCell ⟨gb204, 2, none⟩ (.slice A203_2 ((rd_T52 l0 x13_1).f2).length c203_2)).heap[gb204]? = some (.cells #[.string ((rd_T52 l0 x13_1).f0), .int .i64 ((rd_T52 l0 x13_1).f1), .slice A203_2 ((rd_T52 l0 x13_1).f2).length c203_2] 52 (0, 0))) := ⟨by (with_reducible repeat (first | refine blk_drewN ?_ _ | refine blk_drew ?_ | refine blk_alloc ?_ _)); refine blk_put (cs := #[.string ((rd_T52 l0 x13_1).f0), .int .i64 ((rd_T52 l0 x13_1).f1), .slice none 0 0]) ?_ 2 _ rfl; (with_reducible repeat (first | refine blk_drewN ?_ _ | refine blk_drew ?_ | refine blk_alloc ?_ _)); refine blk_put (cs := #[.string ((rd_T52 l0 x13_1).f0), .int .i64 0, .slice none 0 0]) ?_ 1 _ rfl; (with_reducible repeat (first | refine blk_drewN ?_ _ | refine blk_drew ?_ | refine blk_alloc ?_ _)); refine blk_put (cs := #[.string (⟨#[]⟩ : ByteArray), .int .i64 0, .slice none 0 0]) ?_ 0 _ rfl; (with_reducible repeat (first | refine blk_drewN ?_ _ | refine blk_drew ?_ | refine blk_alloc ?_ _)); exact BK204.out⟩
             have n1_ : Aside0 (Below w.heap.size w (((w7.setCell ⟨gb204, 0, none⟩ (.string ((rd_T52 l0 x13_1).f0))).setCell ⟨gb204, 1, none⟩ (.int .i64 ((rd_T52 l0 x13_1).f1))).setCell ⟨gb204, 2, none⟩ (.slice A203_2 ((rd_T52 l0 x13_1).f2).length c203_2))) := ⟨by repeat (first | (with_reducible first | exact HB.out | apply below_alloc | apply pw_below_drewN | apply below_drew1 | refine below_set ?_ GE204.out) | exact HB.out)⟩
             (try clear BK204)
             (try clear HB)
             generalize (((w7.setCell ⟨gb204, 0, none⟩ (.string ((rd_T52 l0 x13_1).f0))).setCell ⟨gb204, 1, none⟩ (.int .i64 ((rd_T52 l0 x13_1).f1))).setCell ⟨gb204, 2, none⟩ (.slice A203_2 ((rd_T52 l0 x13_1).f2).length c203_2)) = w18 at n0_ n1_ ⊢
             have BK204 := n0_
             have HB := n1_
             clear n0_ n1_
             have n0_ := Aside0.mk (blk_drew BK204.out)
             have n1_ := Aside0.mk (below_drew1 HB.out)
             clear BK204
             clear HB
             have BK204 := n0_
             have HB := n1_
             clear n0_ n1_
             have p206 : 0 ≤ ((ji12) : Int) := of_decide_eq_true (by first | (with_reducible assumption) | assumption)
             have q206 : (ji12) < (l0.length : Int) := of_decide_eq_true (by first | (with_reducible assumption) | assumption)
             obtain ⟨ad206, A206_2, c206_2, e206, hx206_0, hx206_1, hx206_2, hl206_2, hi206_2⟩ := at_T52 HR0.out (ji12) p206 q206
             have hw206_2 := hx206_2
             have hw206_1 := hx206_1
             have hw206_0 := hx206_0
             obtain rfl : ad203 = ad206 := (by injection e206)
             try (replace hx206_0 := (HB.out.cell (World.block_lt_of_cell? w _ hx206_0)).trans hx206_0)
             try (replace hx206_1 := (HB.out.cell (World.block_lt_of_cell? w _ hx206_1)).trans hx206_1)
             try (replace hx206_2 := (HB.out.cell (World.block_lt_of_cell? w _ hx206_2)).trans hx206_2)
             have HR206_2 := Aside0.mk hi206_2
             have HC206_2 := Aside0.mk hl206_2
             clear hi206_2 hl206_2
             replace p206 := eq_true p206
             replace q206 := eq_true q206
             refine start_ (n := 25) (S := fun w' => w'.cell? ⟨gb204, 0, none⟩ = some (.string ((rd_T52 l0 x13_1).f0)) ∧ w'.cell? ⟨gb204, 1, none⟩ = some (.int .i64 ((rd_T52 l0 x13_1).f1)) ∧ w'.cell? ⟨gb204, 2, none⟩ = some (.slice A203_2 ((rd_T52 l0 x13_1).f2).length c203_2) ∧ w'.cell? (ad203.add (((ji12)).toNat * 3)) = some (.string ((rd_T52 l0 (ji12)).f0)) ∧ w'.cell? ⟨(ad203.add (((ji12)).toNat * 3)).block, (ad203.add (((ji12)).toNat * 3)).off + 1, none⟩ = some (.int .i64 ((rd_T52 l0 (ji12)).f1)) ∧ w'.cell? ⟨(ad203.add (((ji12)).toNat * 3)).block, (ad203.add (((ji12)).toNat * 3)).off + 2, none⟩ = some (.slice A206_2 ((rd_T52 l0 (ji12)).f2).length c206_2)) (ds := []) (tf 25 0) (by kernel_rfl) rfl rfl ⟨(blk_cell BK204.out 0).trans rfl, (blk_cell BK204.out 1).trans rfl, (blk_cell BK204.out 2).trans rfl, ((HB.out.cell (World.block_lt_of_cell? w _ hw206_0)).trans hw206_0), ((HB.out.cell (World.block_lt_of_cell? w _ hw206_1)).trans hw206_1), ((HB.out.cell (World.block_lt_of_cell? w _ hw206_2)).trans hw206_2)⟩ (fun hHeld => ?_); refine with_tabW impl_ProfilesOk.tab6 impl_ProfilesOk.bits6 (fun HT_ HW_ => ?_)
             generalize w18.drew = w19 at BK204 HB HR206_2 hx206_0 hx206_1 hx206_2 hHeld ⊢
             refine qA 0 18 (tf 25 1) ?_
             refine qT 1 19 (tf 25 3) ?_
             refine one_ (i := 2) (N := some 20) (tf 25 7) rfl rfl (one_of HT_.out (by kernel_rfl)) (by decide) (fun K hK => ?_)
             refine goes_ Try.func34 (by kernel_rfl) rfl #[.string ((rd_T52 l0 x13_1).f0)] (by rfl) rfl rfl (by (try simp only [List.map_toArray, List.map_cons, List.map_nil]); first | done | rfl | (simp only [List.length_drop, List.length_take]; rfl)) ?_
             with_reducible refine (impl_NameOk.calls k1 ((rd_T52 l0 x13_1).f0) true _ A9.out).mono ?_
             rintro e w' ⟨rfl, ⟨nd, rfl⟩⟩
             refine ⟨_, rfl, ?_⟩
             refine hK.out _ _ ⟨(blk_cell BK204.out 0).trans rfl, (blk_cell BK204.out 1).trans rfl, (blk_cell BK204.out 2).trans rfl, ((HB.out.cell (World.block_lt_of_cell? w _ hw206_0)).trans hw206_0), ((HB.out.cell (World.block_lt_of_cell? w _ hw206_1)).trans hw206_1), ((HB.out.cell (World.block_lt_of_cell? w _ hw206_2)).trans hw206_2)⟩ (fun hHeld => ?_)
             clear hK K
             refine norm_ (a' := ?_) ?_ ?_
             rotate_left
             ·show Act.put _ (some 20) _ = _
              simp only [Act.put, sT, s0, sS, i64_w, i32_w]
              rfl
             refine qA 3 21 (tf 25 15) ?_
             refine qA 4 22 (tf 25 31) ?_
             refine qA 5 23 (tf 25 63) ?_
             refine qA 6 24 (tf 25 127) ?_
             refine qA 7 25 (tf 25 255) ?_
             refine qA 8 26 (tf 25 511) ?_
             refine qA 9 27 (tf 25 1023) ?_
             refine qA 10 28 (tf 25 2047) ?_
             refine qA 11 29 (tf 25 4095) ?_
             refine qA 12 30 (tf 25 8191) ?_
             refine qA 14 32 (tf 25 24575) ?_
             refine qT 13 31 (tf 25 32767) ?_
             refine qT 15 33 (tf 25 65535) ?_
             refine qA 16 34 (tf 25 131071) ?_
             refine qA 17 35 (tf 25 262143) ?_
             refine qA 18 36 (tf 25 524287) ?_
             refine qA 19 37 (tf 25 1048575) ?_
             refine qU 20 38 (tf 25 2097151) ?_
             refine qU 21 39 (tf 25 4194303) ?_
             refine qU 22 40 (tf 25 8388607) ?_
             refine qU 23 41 (tf 25 16777215) ?_
             refine qA 24 42 (tf 25 33554431) ?_
             refine done_ (done_of HT_.out (by kernel_rfl)) ?_
             try go_wp2
             go_meet
             case rel => exact ⟨_, (true), (by first | rfl | (simp; done) | (simp [*]; done)), H', ⟨by have := HK1.out; first | omega | exact Nat.le_refl _⟩, ⟨by (with_reducible repeat (first | refine blk_drewN ?_ _ | refine blk_drew ?_ | refine blk_alloc ?_ _)); exact BK204.out⟩, ⟨by repeat (first | (with_reducible first | exact HB.out | apply below_alloc | apply pw_below_drewN | apply below_drew1 | refine below_set ?_ GE204.out) | exact HB.out)⟩⟩
           ·rw [if_neg c14] at H
            exact absurd H (by simp)
          ·rw [if_neg c13] at H
           exact absurd H (by simp)
         ·rw [if_neg c11] at H
          have c11b0 : decide (0 < x13_1) = false := decide_eq_false c11
          clear c11
          (first | rw [c11b0] | (simp only [i64_w, i32_w]; rw [c11b0]) | skip)
          have H' := Aside0.mk H
          clear H
          try go_wp2
          have n0_ : Aside0 ((((w7.setCell ⟨gb204, 0, none⟩ (.string ((rd_T52 l0 x13_1).f0))).setCell ⟨gb204, 1, none⟩ (.int .i64 ((rd_T52 l0 x13_1).f1))).setCell ⟨gb204, 2, none⟩ (.slice A203_2 ((rd_T52 l0 x13_1).f2).length c203_2)).heap[gb204]? = some (.cells #[.string ((rd_T52 l0 x13_1).f0), .int .i64 ((rd_T52 l0 x13_1).f1), .slice A203_2 ((rd_T52 l0 x13_1).f2).length c203_2] 52 (0, 0))) := ⟨by (with_reducible repeat (first | refine blk_drewN ?_ _ | refine blk_drew ?_ | refine blk_alloc ?_ _)); refine blk_put (cs := #[.string ((rd_T52 l0 x13_1).f0), .int .i64 ((rd_T52 l0 x13_1).f1), .slice none 0 0]) ?_ 2 _ rfl; (with_reducible repeat (first | refine blk_drewN ?_ _ | refine blk_drew ?_ | refine blk_alloc ?_ _)); refine blk_put (cs := #[.string ((rd_T52 l0 x13_1).f0), .int .i64 0, .slice none 0 0]) ?_ 1 _ rfl; (with_reducible repeat (first | refine blk_drewN ?_ _ | refine blk_drew ?_ | refine blk_alloc ?_ _)); refine blk_put (cs := #[.string (⟨#[]⟩ : ByteArray), .int .i64 0, .slice none 0 0]) ?_ 0 _ rfl; (with_reducible repeat (first | refine blk_drewN ?_ _ | refine blk_drew ?_ | refine blk_alloc ?_ _)); exact BK204.out⟩
          have n1_ : Aside0 (Below w.heap.size w (((w7.setCell ⟨gb204, 0, none⟩ (.string ((rd_T52 l0 x13_1).f0))).setCell ⟨gb204, 1, none⟩ (.int .i64 ((rd_T52 l0 x13_1).f1))).setCell ⟨gb204, 2, none⟩ (.slice A203_2 ((rd_T52 l0 x13_1).f2).length c203_2))) := ⟨by repeat (first | (with_reducible first | exact HB.out | apply below_alloc | apply pw_below_drewN | apply below_drew1 | refine below_set ?_ GE204.out) | exact HB.out)⟩
          (try clear BK204)
          (try clear HB)
          generalize (((w7.setCell ⟨gb204, 0, none⟩ (.string ((rd_T52 l0 x13_1).f0))).setCell ⟨gb204, 1, none⟩ (.int .i64 ((rd_T52 l0 x13_1).f1))).setCell ⟨gb204, 2, none⟩ (.slice A203_2 ((rd_T52 l0 x13_1).f2).length c203_2)) = w20 at n0_ n1_ ⊢
          have BK204 := n0_
          have HB := n1_
          clear n0_ n1_
          have n0_ := Aside0.mk (blk_drew BK204.out)
          have n1_ := Aside0.mk (below_drew1 HB.out)
          clear BK204
          clear HB
          have BK204 := n0_
          have HB := n1_
          clear n0_ n1_
          refine start_ (n := 25) (S := fun w' => w'.cell? ⟨gb204, 0, none⟩ = some (.string ((rd_T52 l0 x13_1).f0)) ∧ w'.cell? ⟨gb204, 1, none⟩ = some (.int .i64 ((rd_T52 l0 x13_1).f1)) ∧ w'.cell? ⟨gb204, 2, none⟩ = some (.slice A203_2 ((rd_T52 l0 x13_1).f2).length c203_2)) (ds := []) (tf 25 0) (by kernel_rfl) rfl rfl ⟨(blk_cell BK204.out 0).trans rfl, (blk_cell BK204.out 1).trans rfl, (blk_cell BK204.out 2).trans rfl⟩ (fun hHeld => ?_); refine with_tabW impl_ProfilesOk.tab6 impl_ProfilesOk.bits6 (fun HT_ HW_ => ?_)
          generalize w20.drew = w21 at BK204 HB hHeld ⊢
          refine qA 0 18 (tf 25 1) ?_
          refine qT 1 19 (tf 25 3) ?_
          refine one_ (i := 2) (N := some 20) (tf 25 7) rfl rfl (one_of HT_.out (by kernel_rfl)) (by decide) (fun K hK => ?_)
          refine goes_ Try.func34 (by kernel_rfl) rfl #[.string ((rd_T52 l0 x13_1).f0)] (by rfl) rfl rfl (by (try simp only [List.map_toArray, List.map_cons, List.map_nil]); first | done | rfl | (simp only [List.length_drop, List.length_take]; rfl)) ?_
          with_reducible refine (impl_NameOk.calls k1 ((rd_T52 l0 x13_1).f0) true _ A9.out).mono ?_
          rintro e w' ⟨rfl, ⟨nd, rfl⟩⟩
          refine ⟨_, rfl, ?_⟩
          refine hK.out _ _ ⟨(blk_cell BK204.out 0).trans rfl, (blk_cell BK204.out 1).trans rfl, (blk_cell BK204.out 2).trans rfl⟩ (fun hHeld => ?_)
          clear hK K
          refine norm_ (a' := ?_) ?_ ?_
          rotate_left
          ·show Act.put _ (some 20) _ = _
           simp only [Act.put, sT, s0, sS, i64_w, i32_w]
           rfl
          refine qA 3 21 (tf 25 15) ?_
          refine qA 4 22 (tf 25 31) ?_
          refine qA 5 23 (tf 25 63) ?_
          refine qA 6 24 (tf 25 127) ?_
          refine qA 7 25 (tf 25 255) ?_
          refine qU 8 26 (tf 25 511) ?_
          refine qU 9 27 (tf 25 1023) ?_
          refine qU 10 28 (tf 25 2047) ?_
          refine qU 11 29 (tf 25 4095) ?_
          refine qU 12 30 (tf 25 8191) ?_
          refine qU 13 31 (tf 25 16383) ?_
          refine qU 14 32 (tf 25 32767) ?_
          refine qU 15 33 (tf 25 65535) ?_
          refine qU 16 34 (tf 25 131071) ?_
          refine qA 17 35 (tf 25 262143) ?_
          refine qA 18 36 (tf 25 524287) ?_
          refine qA 19 37 (tf 25 1048575) ?_
          refine qA 20 38 (tf 25 2097151) ?_
          refine qT 21 39 (tf 25 4194303) ?_
          refine qA 22 40 (tf 25 8388607) ?_
          refine qA 23 41 (tf 25 16777215) ?_
          refine qA 24 42 (tf 25 33554431) ?_
          refine done_ (done_of HT_.out (by kernel_rfl)) ?_
          try go_wp2
          go_meet
          case rel => exact ⟨_, (decide ((((rd_T52 l0 x13_1).f2).length : Int) > 50)), (by first | rfl | (simp; done) | (simp [*]; done)), H', ⟨by have := HK1.out; first | omega | exact Nat.le_refl _⟩, ⟨by (with_reducible repeat (first | refine blk_drewN ?_ _ | refine blk_drew ?_ | refine blk_alloc ?_ _)); exact BK204.out⟩, ⟨by repeat (first | (with_reducible first | exact HB.out | apply below_alloc | apply pw_below_drewN | apply below_drew1 | refine below_set ?_ GE204.out) | exact HB.out)⟩⟩
        ·replace c10 := Bool.eq_false_iff.mpr c10
         subst c10
         have H1 : (impl_ProfilesOk.j1 k1 l0 l0 (l0.length : Int) x13_1 true ((rd_T52 l0 x13_1).f0) ((rd_T52 l0 x13_1).f1) ((rd_T52 l0 x13_1).f2)) = some r := by rw [if_neg (show ¬ (false = true) by decide)] at H; exact H
         clear H
         have H := H1
         clear H1
         have H' := Aside0.mk H
         clear H
         try go_wp2
         have n0_ : Aside0 ((((w7.setCell ⟨gb204, 0, none⟩ (.string ((rd_T52 l0 x13_1).f0))).setCell ⟨gb204, 1, none⟩ (.int .i64 ((rd_T52 l0 x13_1).f1))).setCell ⟨gb204, 2, none⟩ (.slice A203_2 ((rd_T52 l0 x13_1).f2).length c203_2)).heap[gb204]? = some (.cells #[.string ((rd_T52 l0 x13_1).f0), .int .i64 ((rd_T52 l0 x13_1).f1), .slice A203_2 ((rd_T52 l0 x13_1).f2).length c203_2] 52 (0, 0))) := ⟨by (with_reducible repeat (first | refine blk_drewN ?_ _ | refine blk_drew ?_ | refine blk_alloc ?_ _)); refine blk_put (cs := #[.string ((rd_T52 l0 x13_1).f0), .int .i64 ((rd_T52 l0 x13_1).f1), .slice none 0 0]) ?_ 2 _ rfl; (with_reducible repeat (first | refine blk_drewN ?_ _ | refine blk_drew ?_ | refine blk_alloc ?_ _)); refine blk_put (cs := #[.string ((rd_T52 l0 x13_1).f0), .int .i64 0, .slice none 0 0]) ?_ 1 _ rfl; (with_reducible repeat (first | refine blk_drewN ?_ _ | refine blk_drew ?_ | refine blk_alloc ?_ _)); refine blk_put (cs := #[.string (⟨#[]⟩ : ByteArray), .int .i64 0, .slice none 0 0]) ?_ 0 _ rfl; (with_reducible repeat (first | refine blk_drewN ?_ _ | refine blk_drew ?_ | refine blk_alloc ?_ _)); exact BK204.out⟩
         have n1_ : Aside0 (Below w.heap.size w (((w7.setCell ⟨gb204, 0, none⟩ (.string ((rd_T52 l0 x13_1).f0))).setCell ⟨gb204, 1, none⟩ (.int .i64 ((rd_T52 l0 x13_1).f1))).setCell ⟨gb204, 2, none⟩ (.slice A203_2 ((rd_T52 l0 x13_1).f2).length c203_2))) := ⟨by repeat (first | (with_reducible first | exact HB.out | apply below_alloc | apply pw_below_drewN | apply below_drew1 | refine below_set ?_ GE204.out) | exact HB.out)⟩
         (try clear BK204)
         (try clear HB)
         generalize (((w7.setCell ⟨gb204, 0, none⟩ (.string ((rd_T52 l0 x13_1).f0))).setCell ⟨gb204, 1, none⟩ (.int .i64 ((rd_T52 l0 x13_1).f1))).setCell ⟨gb204, 2, none⟩ (.slice A203_2 ((rd_T52 l0 x13_1).f2).length c203_2)) = w22 at n0_ n1_ ⊢
         have BK204 := n0_
         have HB := n1_
         clear n0_ n1_
         have n0_ := Aside0.mk (blk_drew BK204.out)
         have n1_ := Aside0.mk (below_drew1 HB.out)
         clear BK204
         clear HB
         have BK204 := n0_
         have HB := n1_
         clear n0_ n1_
         refine start_ (n := 25) (S := fun w' => w'.cell? ⟨gb204, 0, none⟩ = some (.string ((rd_T52 l0 x13_1).f0)) ∧ w'.cell? ⟨gb204, 1, none⟩ = some (.int .i64 ((rd_T52 l0 x13_1).f1)) ∧ w'.cell? ⟨gb204, 2, none⟩ = some (.slice A203_2 ((rd_T52 l0 x13_1).f2).length c203_2)) (ds := []) (tf 25 0) (by kernel_rfl) rfl rfl ⟨(blk_cell BK204.out 0).trans rfl, (blk_cell BK204.out 1).trans rfl, (blk_cell BK204.out 2).trans rfl⟩ (fun hHeld => ?_); refine with_tabW impl_ProfilesOk.tab6 impl_ProfilesOk.bits6 (fun HT_ HW_ => ?_)
         generalize w22.drew = w23 at BK204 HB hHeld ⊢
         refine qA 0 18 (tf 25 1) ?_
         refine qT 1 19 (tf 25 3) ?_
         refine one_ (i := 2) (N := some 20) (tf 25 7) rfl rfl (one_of HT_.out (by kernel_rfl)) (by decide) (fun K hK => ?_)
         refine goes_ Try.func34 (by kernel_rfl) rfl #[.string ((rd_T52 l0 x13_1).f0)] (by rfl) rfl rfl (by (try simp only [List.map_toArray, List.map_cons, List.map_nil]); first | done | rfl | (simp only [List.length_drop, List.length_take]; rfl)) ?_
         with_reducible refine (impl_NameOk.calls k1 ((rd_T52 l0 x13_1).f0) false _ A9.out).mono ?_
         rintro e w' ⟨rfl, ⟨nd, rfl⟩⟩
         refine ⟨_, rfl, ?_⟩
         refine hK.out _ _ ⟨(blk_cell BK204.out 0).trans rfl, (blk_cell BK204.out 1).trans rfl, (blk_cell BK204.out 2).trans rfl⟩ (fun hHeld => ?_)
         clear hK K
         refine norm_ (a' := ?_) ?_ ?_
         rotate_left
         ·show Act.put _ (some 20) _ = _
          simp only [Act.put, sT, s0, sS, i64_w, i32_w]
          rfl
         refine qA 3 21 (tf 25 15) ?_
         refine qA 4 22 (tf 25 31) ?_
         refine qU 5 23 (tf 25 63) ?_
         refine qU 6 24 (tf 25 127) ?_
         refine qU 7 25 (tf 25 255) ?_
         refine qU 8 26 (tf 25 511) ?_
         refine qU 9 27 (tf 25 1023) ?_
         refine qU 10 28 (tf 25 2047) ?_
         refine qU 11 29 (tf 25 4095) ?_
         refine qU 12 30 (tf 25 8191) ?_
         refine qU 13 31 (tf 25 16383) ?_
         refine qU 14 32 (tf 25 32767) ?_
         refine qU 15 33 (tf 25 65535) ?_
         refine qU 16 34 (tf 25 131071) ?_
         refine qU 17 35 (tf 25 262143) ?_
         refine qA 18 36 (tf 25 524287) ?_
         refine qA 19 37 (tf 25 1048575) ?_
         refine qU 20 38 (tf 25 2097151) ?_
         refine qU 21 39 (tf 25 4194303) ?_
         refine qU 22 40 (tf 25 8388607) ?_
         refine qU 23 41 (tf 25 16777215) ?_
         refine qA 24 42 (tf 25 33554431) ?_
         refine done_ (done_of HT_.out (by kernel_rfl)) ?_
         try go_wp2
         go_meet
         case rel => exact ⟨_, (true), (by first | rfl | (simp; done) | (simp [*]; done)), H', ⟨by have := HK1.out; first | omega | exact Nat.le_refl _⟩, ⟨by (with_reducible repeat (first | refine blk_drewN ?_ _ | refine blk_drew ?_ | refine blk_alloc ?_ _)); exact BK204.out⟩, ⟨by repeat (first | (with_reducible first | exact HB.out | apply below_alloc | apply pw_below_drewN | apply below_drew1 | refine below_set ?_ GE204.out) | exact HB.out)⟩⟩
       case rest =>
        clear HC6
        try clear c1
        try clear c2
        try clear p2
        try clear q2
        try clear hx2
        try clear c3
        try clear c10
        try clear c11
        try clear c11b0
        try clear c13
        try clear c14
        try clear c15
        try clear c15b0
        try clear c20
        try clear p20
        try clear q20
        try clear hx20
        try clear hx206_0
        try clear hx206_1
        try clear hx206_2
        try clear p206
        try clear q206
        obtain ⟨kq, x42_5, rfl, HA, HJ5, BK204, HB⟩ := hcut
        cases kq with
        | zero => exact absurd HA.out (by simp [impl_ProfilesOk.j1])
        | succ kj5 =>
         have H := HA.out
         clear HA
         simp only [impl_ProfilesOk.j1] at H
         by_cases c24 : x42_5 = true
         ·subst c24
          have H1 : (some false) = some r := by rw [if_pos rfl] at H; exact H
          clear H
          have H := H1
          clear H1
          obtain rfl := Option.some.inj H
          go_wp2
          go_ret
          exact ⟨by first | rfl | (simp [errW_none, errW_some] <;> rfl) | (simp [*, errW_none, errW_some] <;> rfl), by repeat (first | (with_reducible first | exact HB.out | apply below_alloc | apply pw_below_drewN | apply below_drew1 | refine below_set ?_ GE204.out) | exact HB.out)⟩
         ·replace c24 := Bool.eq_false_iff.mpr c24
          subst c24
          have H1 : (impl_ProfilesOk.l1 kj5 l0 (((rd_T52 l0 x13_1).f1) == 0) l0 (l0.length : Int) x13_1 ((rd_T52 l0 x13_1).f2) (((rd_T52 l0 x13_1).f2).length : Int) 0 ((rd_T52 l0 x13_1).f0) ((rd_T52 l0 x13_1).f1) ((rd_T52 l0 x13_1).f2)) = some r := by rw [if_neg (show ¬ (false = true) by decide)] at H; exact H
          clear H
          have H := H1
          clear H1
          have H' := Aside0.mk H
          clear H
          have hcz25_0 : wc.cell? ⟨gb204, 0, none⟩ = some (.string ((rd_T52 l0 x13_1).f0)) := (blk_cell BK204.out 0).trans rfl
          have hcz25_1 : wc.cell? ⟨gb204, 1, none⟩ = some (.int .i64 ((rd_T52 l0 x13_1).f1)) := (blk_cell BK204.out 1).trans rfl
          have hcz25_2 : wc.cell? ⟨gb204, 2, none⟩ = some (.slice A203_2 ((rd_T52 l0 x13_1).f2).length c203_2) := (blk_cell BK204.out 2).trans rfl
          have hfz25_0 := blk_frozen BK204.out 0
          have hfz25_1 := blk_frozen BK204.out 1
          have hfz25_2 := blk_frozen BK204.out 2
          go_wp2
          go_loopg [5, 49] kj5 (fun kq v5 v49 w' => ∃ (x5_3 : Bool) (x49_3 : Int), v5 = .bool x5_3 ∧ v49 = .int .i64 x49_3 ∧ Aside0 (impl_ProfilesOk.l1 kq l0 x5_3 l0 (l0.length : Int) x13_1 ((rd_T52 l0 x13_1).f2) (((rd_T52 l0 x13_1).f2).length : Int) x49_3 ((rd_T52 l0 x13_1).f0) ((rd_T52 l0 x13_1).f1) ((rd_T52 l0 x13_1).f2) = some r) ∧ Aside0 (kq ≤ kj5) ∧ Aside0 (w'.heap[gb204]? = some (.cells #[.string ((rd_T52 l0 x13_1).f0), .int .i64 ((rd_T52 l0 x13_1).f1), (.slice A203_2 ((rd_T52 l0 x13_1).f2).length c203_2)] 52 (0, 0))) ∧ Aside0 (Below w.heap.size w w'))
          case atStart => exact ⟨((((rd_T52 l0 x13_1).f1) == 0)), (0), (by first | rfl | (simp; done) | (simp [*]; done)), (by first | rfl | (simp; done) | (simp [*]; done)), H', ⟨Nat.le_refl _⟩, ⟨by (with_reducible repeat (first | refine blk_drewN ?_ _ | refine blk_drew ?_ | refine blk_alloc ?_ _)); exact BK204.out⟩, ⟨by repeat (first | (with_reducible first | exact HB.out | apply below_alloc | apply pw_below_drewN | apply below_drew1 | refine below_set ?_ GE204.out) | exact HB.out)⟩⟩
          case round =>
           clear H'
           try clear c1
           try clear c2
           try clear p2
           try clear q2
           try clear hx2
           try clear c3
           try clear c10
           try clear c11
           try clear c11b0
           try clear c13
           try clear c14
           try clear c15
           try clear c15b0
           try clear c20
           try clear p20
           try clear q20
           try clear hx20
           try clear c24
           try clear hcz25_0
           try clear hcz25_1
           try clear hcz25_2
           try clear hfz25_0
           try clear hfz25_1
           try clear hfz25_2
           try clear hx206_0
           try clear hx206_1
           try clear hx206_2
           try clear p2
           try clear p20
           try clear p206
           try clear q2
           try clear q20
           try clear q206
           obtain ⟨x5_3, x49_3, rfl, rfl, HA, HK3, BK204, HB⟩ := hrel
           cases gk with
           | zero => exact absurd HA.out (by simp [impl_ProfilesOk.l1])
           | succ k3 =>
            have H := HA.out
            clear HA
            simp only [impl_ProfilesOk.l1] at H
            by_cases c26 : x49_3 < (((rd_T52 l0 x13_1).f2).length : Int)
            ·rw [if_pos c26] at H
             have c26b0 : decide (x49_3 < (((rd_T52 l0 x13_1).f2).length : Int)) = true := decide_eq_true c26
             clear c26
             by_cases c27 : 0 ≤ x49_3
             ·rw [if_pos c27] at H
              have c27b0 : decide (0 ≤ x49_3) = true := decide_eq_true c27
              clear c27
              by_cases c28 : x49_3 < (((rd_T52 l0 x13_1).f2).length : Int)
              ·rw [if_pos c28] at H
               have c28b0 : decide (x49_3 < (((rd_T52 l0 x13_1).f2).length : Int)) = true := decide_eq_true c28
               clear c28
               by_cases c29 : ((rd_T56 ((rd_T52 l0 x13_1).f2) x49_3).f0) < 1
               ·rw [if_pos c29] at H
                have c29b0 : decide (((rd_T56 ((rd_T52 l0 x13_1).f2) x49_3).f0) < 1) = true := decide_eq_true c29
                clear c29
                obtain rfl := Option.some.inj H
                have p207 : 0 ≤ (x49_3 : Int) := of_decide_eq_true (by first | (with_reducible assumption) | assumption)
                have q207 : x49_3 < (((rd_T52 l0 x13_1).f2).length : Int) := of_decide_eq_true (by first | (with_reducible assumption) | assumption)
                obtain ⟨ad207, e207, hx207_0, hx207_1⟩ := at_T56 HR203_2.out x49_3 p207 q207
                cases e207
                try (replace hx207_0 := (HB.out.cell (World.block_lt_of_cell? w _ hx207_0)).trans hx207_0)
                try (replace hx207_1 := (HB.out.cell (World.block_lt_of_cell? w _ hx207_1)).trans hx207_1)
                replace p207 := eq_true p207
                replace q207 := eq_true q207
                try go_wp2_with (first | ((with_reducible refine gate_dst (N := 7) rfl ?_); (try (refine gate_guard (by rfl) ?_; dsimp only)); refine box_event ?hg (N := 7) ?hd (cs := #[.int .i64 0, .string (⟨#[]⟩ : ByteArray)]) (t := 56) ?hr ?_; (case hd => rfl); (case hg => rfl); (case hr => first | (go_simp; done) | (go_simp; rfl)); intro gb208 hg w30 hbox hb; have n0_ := Aside0.mk (blk_below (g := gb204) (qK BK204.out) hb); have n1_ := Aside0.mk (below_step (qG GE204.out) hb); have n2_ := Aside0.mk (hbox); have n3_ := Aside0.mk ((by rw [hg]; exact (below_size (qG GE204.out)) : w.heap.size ≤ gb208)); have n4_ := Aside0.mk ((by rw [hg]; exact (below_size (qG GE204.out)) : w.heap.size ≤ gb208)); have n5_ := Aside0.mk ((by rw [hg]; exact Nat.ne_of_lt (blk_lt (g := gb204) (qK BK204.out)) : gb204 ≠ gb208)); have n6_ := Aside0.mk ((by rw [hg]; exact Nat.ne_of_gt (blk_lt (g := gb204) (qK BK204.out)) : gb208 ≠ gb204)); clear BK204; clear HB; have BK204 := n0_; have HB := n1_; have BK208 := n2_; have GW208 := n3_; have GE208 := n4_; have NB204_208 := n5_; have NB208_204 := n6_; clear n0_ n1_ n2_ n3_ n4_ n5_ n6_; clear hb hbox hg; have hnb31 := NB208_204.out; have hnc31 := NB204_208.out; have hcz32_0 : w30.cell? ⟨gb208, 0, none⟩ = some (.int .i64 0) := (blk_cell BK208.out 0).trans rfl; have hcz32_1 : w30.cell? ⟨gb208, 1, none⟩ = some (.string (⟨#[]⟩ : ByteArray)) := (blk_cell BK208.out 1).trans rfl; have hfz32_0 := blk_frozen BK208.out 0; have hfz32_1 := blk_frozen BK208.out 1))
                have n0_ : Aside0 (((w30.setCell ⟨gb208, 0, none⟩ (.int .i64 ((rd_T56 ((rd_T52 l0 x13_1).f2) x49_3).f0))).setCell ⟨gb208, 1, none⟩ (.string ((rd_T56 ((rd_T52 l0 x13_1).f2) x49_3).f1))).heap[gb204]? = some (.cells #[.string ((rd_T52 l0 x13_1).f0), .int .i64 ((rd_T52 l0 x13_1).f1), .slice (some ad207) ((rd_T52 l0 x13_1).f2).length c203_2] 52 (0, 0))) := ⟨by (with_reducible repeat (first | refine blk_drewN ?_ _ | refine blk_drew ?_ | refine blk_alloc ?_ _)); refine blk_far ?_ NB204_208.out _; (with_reducible repeat (first | refine blk_drewN ?_ _ | refine blk_drew ?_ | refine blk_alloc ?_ _)); refine blk_far ?_ NB204_208.out _; (with_reducible repeat (first | refine blk_drewN ?_ _ | refine blk_drew ?_ | refine blk_alloc ?_ _)); exact BK204.out⟩
                have n1_ : Aside0 (((w30.setCell ⟨gb208, 0, none⟩ (.int .i64 ((rd_T56 ((rd_T52 l0 x13_1).f2) x49_3).f0))).setCell ⟨gb208, 1, none⟩ (.string ((rd_T56 ((rd_T52 l0 x13_1).f2) x49_3).f1))).heap[gb208]? = some (.cells #[.int .i64 ((rd_T56 ((rd_T52 l0 x13_1).f2) x49_3).f0), .string ((rd_T56 ((rd_T52 l0 x13_1).f2) x49_3).f1)] 56 (0, 0))) := ⟨by (with_reducible repeat (first | refine blk_drewN ?_ _ | refine blk_drew ?_ | refine blk_alloc ?_ _)); refine blk_put (cs := #[.int .i64 ((rd_T56 ((rd_T52 l0 x13_1).f2) x49_3).f0), .string (⟨#[]⟩ : ByteArray)]) ?_ 1 _ rfl; (with_reducible repeat (first | refine blk_drewN ?_ _ | refine blk_drew ?_ | refine blk_alloc ?_ _)); refine blk_put (cs := #[.int .i64 0, .string (⟨#[]⟩ : ByteArray)]) ?_ 0 _ rfl; (with_reducible repeat (first | refine blk_drewN ?_ _ | refine blk_drew ?_ | refine blk_alloc ?_ _)); exact BK208.out⟩
                have n2_ : Aside0 (Below w.heap.size w ((w30.setCell ⟨gb208, 0, none⟩ (.int .i64 ((rd_T56 ((rd_T52 l0 x13_1).f2) x49_3).f0))).setCell ⟨gb208, 1, none⟩ (.string ((rd_T56 ((rd_T52 l0 x13_1).f2) x49_3).f1)))) := ⟨by repeat (first | (with_reducible first | exact HB.out | apply below_alloc | apply pw_below_drewN | apply below_drew1 | refine below_set ?_ GE204.out | refine below_set ?_ GE208.out) | exact HB.out)⟩
                (try clear BK204)
                (try clear BK208)
                (try clear HB)
                generalize ((w30.setCell ⟨gb208, 0, none⟩ (.int .i64 ((rd_T56 ((rd_T52 l0 x13_1).f2) x49_3).f0))).setCell ⟨gb208, 1, none⟩ (.string ((rd_T56 ((rd_T52 l0 x13_1).f2) x49_3).f1))) = w33 at n0_ n1_ n2_ ⊢
                have BK204 := n0_
                have BK208 := n1_
                have HB := n2_
                clear n0_ n1_ n2_
                have n0_ := Aside0.mk (blk_drew BK204.out)
                have n1_ := Aside0.mk (blk_drew BK208.out)
                have n2_ := Aside0.mk (below_drew1 HB.out)
                clear BK204
                clear BK208
                clear HB
                have BK204 := n0_
                have BK208 := n1_
                have HB := n2_
                clear n0_ n1_ n2_
                refine start_ (n := 30) (S := fun w' => w'.cell? ⟨gb208, 0, none⟩ = some (.int .i64 ((rd_T56 ((rd_T52 l0 x13_1).f2) x49_3).f0)) ∧ w'.cell? ⟨gb208, 1, none⟩ = some (.string ((rd_T56 ((rd_T52 l0 x13_1).f2) x49_3).f1))) (ds := []) (tf 30 0) (by kernel_rfl) rfl rfl ⟨(blk_cell BK208.out 0).trans rfl, (blk_cell BK208.out 1).trans rfl⟩ (fun hHeld => ?_); refine with_tabW impl_ProfilesOk.tab12 impl_ProfilesOk.bits12 (fun HT_ HW_ => ?_)
                generalize w33.drew = w34 at BK204 BK208 HB hHeld ⊢
                refine qA 0 54 (tf 30 1) ?_
                refine qT 1 55 (tf 30 3) ?_
                refine qA 2 56 (tf 30 7) ?_
                refine qA 3 57 (tf 30 15) ?_
                refine qU 4 58 (tf 30 31) ?_
                refine qU 5 59 (tf 30 63) ?_
                refine qU 6 60 (tf 30 127) ?_
                refine qA 7 61 (tf 30 255) ?_
                refine qA 8 62 (tf 30 511) ?_
                refine qU 9 63 (tf 30 1023) ?_
                refine qU 10 64 (tf 30 2047) ?_
                refine qU 11 65 (tf 30 4095) ?_
                refine qU 12 66 (tf 30 8191) ?_
                refine qA 13 67 (tf 30 16383) ?_
                refine qA 14 68 (tf 30 32767) ?_
                refine qU 15 69 (tf 30 65535) ?_
                refine qU 16 70 (tf 30 131071) ?_
                refine qU 17 71 (tf 30 262143) ?_
                refine qU 18 72 (tf 30 524287) ?_
                refine qU 19 73 (tf 30 1048575) ?_
                refine qU 20 74 (tf 30 2097151) ?_
                refine qU 21 75 (tf 30 4194303) ?_
                refine qU 22 76 (tf 30 8388607) ?_
                refine qU 23 77 (tf 30 16777215) ?_
                refine qU 24 78 (tf 30 33554431) ?_
                refine qU 25 79 (tf 30 67108863) ?_
                refine qU 26 80 (tf 30 134217727) ?_
                refine qU 27 81 (tf 30 268435455) ?_
                refine qU 28 82 (tf 30 536870911) ?_
                refine qA 29 83 (tf 30 1073741823) ?_
                refine done_ (done_of HT_.out (by kernel_rfl)) ?_
                try go_wp2
                go_ret
                exact ⟨by first | rfl | (simp [errW_none, errW_some] <;> rfl) | (simp [*, errW_none, errW_some] <;> rfl), by repeat (first | (with_reducible first | exact HB.out | apply below_alloc | apply pw_below_drewN | apply below_drew1 | refine below_set ?_ GE204.out | refine below_set ?_ GE208.out) | exact HB.out)⟩
               ·rw [if_neg c29] at H
                have c29b0 : decide (((rd_T56 ((rd_T52 l0 x13_1).f2) x49_3).f0) < 1) = false := decide_eq_false c29
                clear c29
                by_cases c35 : ((rd_T56 ((rd_T52 l0 x13_1).f2) x49_3).f0) > 9007199254740992
                ·rw [if_pos c35] at H
                 have c35b0 : decide (9007199254740992 < ((rd_T56 ((rd_T52 l0 x13_1).f2) x49_3).f0)) = true := decide_eq_true c35
                 clear c35
                 obtain rfl := Option.some.inj H
                 have p207 : 0 ≤ (x49_3 : Int) := of_decide_eq_true (by first | (with_reducible assumption) | assumption)
                 have q207 : x49_3 < (((rd_T52 l0 x13_1).f2).length : Int) := of_decide_eq_true (by first | (with_reducible assumption) | assumption)
                 obtain ⟨ad207, e207, hx207_0, hx207_1⟩ := at_T56 HR203_2.out x49_3 p207 q207
                 cases e207
                 try (replace hx207_0 := (HB.out.cell (World.block_lt_of_cell? w _ hx207_0)).trans hx207_0)
                 try (replace hx207_1 := (HB.out.cell (World.block_lt_of_cell? w _ hx207_1)).trans hx207_1)
                 replace p207 := eq_true p207
                 replace q207 := eq_true q207
                 try go_wp2_with (first | ((with_reducible refine gate_dst (N := 7) rfl ?_); (try (refine gate_guard (by rfl) ?_; dsimp only)); refine box_event ?hg (N := 7) ?hd (cs := #[.int .i64 0, .string (⟨#[]⟩ : ByteArray)]) (t := 56) ?hr ?_; (case hd => rfl); (case hg => rfl); (case hr => first | (go_simp; done) | (go_simp; rfl)); intro gb208 hg w36 hbox hb; have n0_ := Aside0.mk (blk_below (g := gb204) (qK BK204.out) hb); have n1_ := Aside0.mk (below_step (qG GE204.out) hb); have n2_ := Aside0.mk (hbox); have n3_ := Aside0.mk ((by rw [hg]; exact (below_size (qG GE204.out)) : w.heap.size ≤ gb208)); have n4_ := Aside0.mk ((by rw [hg]; exact (below_size (qG GE204.out)) : w.heap.size ≤ gb208)); have n5_ := Aside0.mk ((by rw [hg]; exact Nat.ne_of_lt (blk_lt (g := gb204) (qK BK204.out)) : gb204 ≠ gb208)); have n6_ := Aside0.mk ((by rw [hg]; exact Nat.ne_of_gt (blk_lt (g := gb204) (qK BK204.out)) : gb208 ≠ gb204)); clear BK204; clear HB; have BK204 := n0_; have HB := n1_; have BK208 := n2_; have GW208 := n3_; have GE208 := n4_; have NB204_208 := n5_; have NB208_204 := n6_; clear n0_ n1_ n2_ n3_ n4_ n5_ n6_; clear hb hbox hg; have hnb37 := NB208_204.out; have hnc37 := NB204_208.out; have hcz38_0 : w36.cell? ⟨gb208, 0, none⟩ = some (.int .i64 0) := (blk_cell BK208.out 0).trans rfl; have hcz38_1 : w36.cell? ⟨gb208, 1, none⟩ = some (.string (⟨#[]⟩ : ByteArray)) := (blk_cell BK208.out 1).trans rfl; have hfz38_0 := blk_frozen BK208.out 0; have hfz38_1 := blk_frozen BK208.out 1))
                 have n0_ : Aside0 (((w36.setCell ⟨gb208, 0, none⟩ (.int .i64 ((rd_T56 ((rd_T52 l0 x13_1).f2) x49_3).f0))).setCell ⟨gb208, 1, none⟩ (.string ((rd_T56 ((rd_T52 l0 x13_1).f2) x49_3).f1))).heap[gb204]? = some (.cells #[.string ((rd_T52 l0 x13_1).f0), .int .i64 ((rd_T52 l0 x13_1).f1), .slice (some ad207) ((rd_T52 l0 x13_1).f2).length c203_2] 52 (0, 0))) := ⟨by (with_reducible repeat (first | refine blk_drewN ?_ _ | refine blk_drew ?_ | refine blk_alloc ?_ _)); refine blk_far ?_ NB204_208.out _; (with_reducible repeat (first | refine blk_drewN ?_ _ | refine blk_drew ?_ | refine blk_alloc ?_ _)); refine blk_far ?_ NB204_208.out _; (with_reducible repeat (first | refine blk_drewN ?_ _ | refine blk_drew ?_ | refine blk_alloc ?_ _)); exact BK204.out⟩
                 have n1_ : Aside0 (((w36.setCell ⟨gb208, 0, none⟩ (.int .i64 ((rd_T56 ((rd_T52 l0 x13_1).f2) x49_3).f0))).setCell ⟨gb208, 1, none⟩ (.string ((rd_T56 ((rd_T52 l0 x13_1).f2) x49_3).f1))).heap[gb208]? = some (.cells #[.int .i64 ((rd_T56 ((rd_T52 l0 x13_1).f2) x49_3).f0), .string ((rd_T56 ((rd_T52 l0 x13_1).f2) x49_3).f1)] 56 (0, 0))) := ⟨by (with_reducible repeat (first | refine blk_drewN ?_ _ | refine blk_drew ?_ | refine blk_alloc ?_ _)); refine blk_put (cs := #[.int .i64 ((rd_T56 ((rd_T52 l0 x13_1).f2) x49_3).f0), .string (⟨#[]⟩ : ByteArray)]) ?_ 1 _ rfl; (with_reducible repeat (first | refine blk_drewN ?_ _ | refine blk_drew ?_ | refine blk_alloc ?_ _)); refine blk_put (cs := #[.int .i64 0, .string (⟨#[]⟩ : ByteArray)]) ?_ 0 _ rfl; (with_reducible repeat (first | refine blk_drewN ?_ _ | refine blk_drew ?_ | refine blk_alloc ?_ _)); exact BK208.out⟩
                 have n2_ : Aside0 (Below w.heap.size w ((w36.setCell ⟨gb208, 0, none⟩ (.int .i64 ((rd_T56 ((rd_T52 l0 x13_1).f2) x49_3).f0))).setCell ⟨gb208, 1, none⟩ (.string ((rd_T56 ((rd_T52 l0 x13_1).f2) x49_3).f1)))) := ⟨by repeat (first | (with_reducible first | exact HB.out | apply below_alloc | apply pw_below_drewN | apply below_drew1 | refine below_set ?_ GE204.out | refine below_set ?_ GE208.out) | exact HB.out)⟩
                 (try clear BK204)
                 (try clear BK208)
                 (try clear HB)
                 generalize ((w36.setCell ⟨gb208, 0, none⟩ (.int .i64 ((rd_T56 ((rd_T52 l0 x13_1).f2) x49_3).f0))).setCell ⟨gb208, 1, none⟩ (.string ((rd_T56 ((rd_T52 l0 x13_1).f2) x49_3).f1))) = w39 at n0_ n1_ n2_ ⊢
                 have BK204 := n0_
                 have BK208 := n1_
                 have HB := n2_
                 clear n0_ n1_ n2_
                 have n0_ := Aside0.mk (blk_drew BK204.out)
                 have n1_ := Aside0.mk (blk_drew BK208.out)
                 have n2_ := Aside0.mk (below_drew1 HB.out)
                 clear BK204
                 clear BK208
                 clear HB
                 have BK204 := n0_
                 have BK208 := n1_
                 have HB := n2_
                 clear n0_ n1_ n2_
                 refine start_ (n := 30) (S := fun w' => w'.cell? ⟨gb208, 0, none⟩ = some (.int .i64 ((rd_T56 ((rd_T52 l0 x13_1).f2) x49_3).f0)) ∧ w'.cell? ⟨gb208, 1, none⟩ = some (.string ((rd_T56 ((rd_T52 l0 x13_1).f2) x49_3).f1))) (ds := []) (tf 30 0) (by kernel_rfl) rfl rfl ⟨(blk_cell BK208.out 0).trans rfl, (blk_cell BK208.out 1).trans rfl⟩ (fun hHeld => ?_); refine with_tabW impl_ProfilesOk.tab12 impl_ProfilesOk.bits12 (fun HT_ HW_ => ?_)
                 generalize w39.drew = w40 at BK204 BK208 HB hHeld ⊢
                 refine qA 0 54 (tf 30 1) ?_
                 refine qT 1 55 (tf 30 3) ?_
                 refine qA 2 56 (tf 30 7) ?_
                 refine qA 3 57 (tf 30 15) ?_
                 refine qA 4 58 (tf 30 31) ?_
                 refine qT 5 59 (tf 30 63) ?_
                 refine qA 6 60 (tf 30 127) ?_
                 refine qA 7 61 (tf 30 255) ?_
                 refine qA 8 62 (tf 30 511) ?_
                 refine qU 9 63 (tf 30 1023) ?_
                 refine qU 10 64 (tf 30 2047) ?_
                 refine qU 11 65 (tf 30 4095) ?_
                 refine qU 12 66 (tf 30 8191) ?_
                 refine qA 13 67 (tf 30 16383) ?_
                 refine qA 14 68 (tf 30 32767) ?_
                 refine qU 15 69 (tf 30 65535) ?_
                 refine qU 16 70 (tf 30 131071) ?_
                 refine qU 17 71 (tf 30 262143) ?_
                 refine qU 18 72 (tf 30 524287) ?_
                 refine qU 19 73 (tf 30 1048575) ?_
                 refine qU 20 74 (tf 30 2097151) ?_
                 refine qU 21 75 (tf 30 4194303) ?_
                 refine qU 22 76 (tf 30 8388607) ?_
                 refine qU 23 77 (tf 30 16777215) ?_
                 refine qU 24 78 (tf 30 33554431) ?_
                 refine qU 25 79 (tf 30 67108863) ?_
                 refine qU 26 80 (tf 30 134217727) ?_
                 refine qU 27 81 (tf 30 268435455) ?_
                 refine qU 28 82 (tf 30 536870911) ?_
                 refine qA 29 83 (tf 30 1073741823) ?_
                 refine done_ (done_of HT_.out (by kernel_rfl)) ?_
                 try go_wp2
                 go_ret
                 exact ⟨by first | rfl | (simp [errW_none, errW_some] <;> rfl) | (simp [*, errW_none, errW_some] <;> rfl), by repeat (first | (with_reducible first | exact HB.out | apply below_alloc | apply pw_below_drewN | apply below_drew1 | refine below_set ?_ GE204.out | refine below_set ?_ GE208.out) | exact HB.out)⟩
                ·rw [if_neg c35] at H
                 have c35b0 : decide (9007199254740992 < ((rd_T56 ((rd_T52 l0 x13_1).f2) x49_3).f0)) = false := decide_eq_false c35
                 clear c35
                 replace H := Option.bind_eq_some_iff.mp H
                 obtain ⟨t209, A410, H⟩ := H
                 replace H : (if t209 = true then (if x49_3 > 0 then (if 0 ≤ (wrap64 (x49_3 - 1)) then (if (wrap64 (x49_3 - 1)) < (((rd_T52 l0 x13_1).f2).length : Int) then (if ((rd_T56 ((rd_T52 l0 x13_1).f2) (wrap64 (x49_3 - 1))).f0) ≥ ((rd_T56 ((rd_T52 l0 x13_1).f2) x49_3).f0) then (some false) else (if x5_3 = true then (impl_ProfilesOk.l1 k3 l0 true l0 (l0.length : Int) x13_1 ((rd_T52 l0 x13_1).f2) (((rd_T52 l0 x13_1).f2).length : Int) (wrap64 (x49_3 + 1)) ((rd_T52 l0 x13_1).f0) ((rd_T52 l0 x13_1).f1) ((rd_T52 l0 x13_1).f2)) else (impl_ProfilesOk.l1 k3 l0 (((rd_T56 ((rd_T52 l0 x13_1).f2) x49_3).f0) == ((rd_T52 l0 x13_1).f1)) l0 (l0.length : Int) x13_1 ((rd_T52 l0 x13_1).f2) (((rd_T52 l0 x13_1).f2).length : Int) (wrap64 (x49_3 + 1)) ((rd_T52 l0 x13_1).f0) ((rd_T52 l0 x13_1).f1) ((rd_T52 l0 x13_1).f2)))) else (none)) else (none)) else (if x5_3 = true then (impl_ProfilesOk.l1 k3 l0 true l0 (l0.length : Int) x13_1 ((rd_T52 l0 x13_1).f2) (((rd_T52 l0 x13_1).f2).length : Int) (wrap64 (x49_3 + 1)) ((rd_T52 l0 x13_1).f0) ((rd_T52 l0 x13_1).f1) ((rd_T52 l0 x13_1).f2)) else (impl_ProfilesOk.l1 k3 l0 (((rd_T56 ((rd_T52 l0 x13_1).f2) x49_3).f0) == ((rd_T52 l0 x13_1).f1)) l0 (l0.length : Int) x13_1 ((rd_T52 l0 x13_1).f2) (((rd_T52 l0 x13_1).f2).length : Int) (wrap64 (x49_3 + 1)) ((rd_T52 l0 x13_1).f0) ((rd_T52 l0 x13_1).f1) ((rd_T52 l0 x13_1).f2)))) else (some false)) = some r := H
                 have A41 := Aside0.mk A410
                 clear A410
                 by_cases c42 : t209 = true
                 ·subst c42
                  have H1 : (if x49_3 > 0 then (if 0 ≤ (wrap64 (x49_3 - 1)) then (if (wrap64 (x49_3 - 1)) < (((rd_T52 l0 x13_1).f2).length : Int) then (if ((rd_T56 ((rd_T52 l0 x13_1).f2) (wrap64 (x49_3 - 1))).f0) ≥ ((rd_T56 ((rd_T52 l0 x13_1).f2) x49_3).f0) then (some false) else (if x5_3 = true then (impl_ProfilesOk.l1 k3 l0 true l0 (l0.length : Int) x13_1 ((rd_T52 l0 x13_1).f2) (((rd_T52 l0 x13_1).f2).length : Int) (wrap64 (x49_3 + 1)) ((rd_T52 l0 x13_1).f0) ((rd_T52 l0 x13_1).f1) ((rd_T52 l0 x13_1).f2)) else (impl_ProfilesOk.l1 k3 l0 (((rd_T56 ((rd_T52 l0 x13_1).f2) x49_3).f0) == ((rd_T52 l0 x13_1).f1)) l0 (l0.length : Int) x13_1 ((rd_T52 l0 x13_1).f2) (((rd_T52 l0 x13_1).f2).length : Int) (wrap64 (x49_3 + 1)) ((rd_T52 l0 x13_1).f0) ((rd_T52 l0 x13_1).f1) ((rd_T52 l0 x13_1).f2)))) else (none)) else (none)) else (if x5_3 = true then (impl_ProfilesOk.l1 k3 l0 true l0 (l0.length : Int) x13_1 ((rd_T52 l0 x13_1).f2) (((rd_T52 l0 x13_1).f2).length : Int) (wrap64 (x49_3 + 1)) ((rd_T52 l0 x13_1).f0) ((rd_T52 l0 x13_1).f1) ((rd_T52 l0 x13_1).f2)) else (impl_ProfilesOk.l1 k3 l0 (((rd_T56 ((rd_T52 l0 x13_1).f2) x49_3).f0) == ((rd_T52 l0 x13_1).f1)) l0 (l0.length : Int) x13_1 ((rd_T52 l0 x13_1).f2) (((rd_T52 l0 x13_1).f2).length : Int) (wrap64 (x49_3 + 1)) ((rd_T52 l0 x13_1).f0) ((rd_T52 l0 x13_1).f1) ((rd_T52 l0 x13_1).f2)))) = some r := by rw [if_pos rfl] at H; exact H
                  clear H
                  have H := H1
                  clear H1
                  by_cases c43 : x49_3 > 0
                  ·rw [if_pos c43] at H
                   have c43b0 : decide (0 < x49_3) = true := decide_eq_true c43
                   clear c43
                   obtain ⟨ji44, hji44⟩ : ∃ j_ : Int, (wrap64 (x49_3 - 1)) = j_ := ⟨_, rfl⟩
                   replace H : (if 0 ≤ (ji44) then (if (ji44) < (((rd_T52 l0 x13_1).f2).length : Int) then (if ((rd_T56 ((rd_T52 l0 x13_1).f2) (ji44)).f0) ≥ ((rd_T56 ((rd_T52 l0 x13_1).f2) x49_3).f0) then (some false) else (if x5_3 = true then (impl_ProfilesOk.l1 k3 l0 true l0 (l0.length : Int) x13_1 ((rd_T52 l0 x13_1).f2) (((rd_T52 l0 x13_1).f2).length : Int) (wrap64 (x49_3 + 1)) ((rd_T52 l0 x13_1).f0) ((rd_T52 l0 x13_1).f1) ((rd_T52 l0 x13_1).f2)) else (impl_ProfilesOk.l1 k3 l0 (((rd_T56 ((rd_T52 l0 x13_1).f2) x49_3).f0) == ((rd_T52 l0 x13_1).f1)) l0 (l0.length : Int) x13_1 ((rd_T52 l0 x13_1).f2) (((rd_T52 l0 x13_1).f2).length : Int) (wrap64 (x49_3 + 1)) ((rd_T52 l0 x13_1).f0) ((rd_T52 l0 x13_1).f1) ((rd_T52 l0 x13_1).f2)))) else (none)) else (none)) = some r := by first | (rw [hji44] at H; exact H) | (simp only [hji44] at H ⊢; exact H)
                   (try rw [hji44] at A41)
                   have hji44w : (IntKind.i64.wrap (x49_3 - 1)) = ji44 := (i64_w _).trans hji44
                   by_cases c45 : 0 ≤ (ji44)
                   ·rw [if_pos c45] at H
                    have c45b0 : decide (0 ≤ (ji44)) = true := decide_eq_true c45
                    clear c45
                    by_cases c46 : (ji44) < (((rd_T52 l0 x13_1).f2).length : Int)
                    ·rw [if_pos c46] at H
                     have c46b0 : decide ((ji44) < (((rd_T52 l0 x13_1).f2).length : Int)) = true := decide_eq_true c46
                     clear c46
                     by_cases c47 : ((rd_T56 ((rd_T52 l0 x13_1).f2) (ji44)).f0) ≥ ((rd_T56 ((rd_T52 l0 x13_1).f2) x49_3).f0)
                     ·rw [if_pos c47] at H
                      have c47b0 : decide (((rd_T56 ((rd_T52 l0 x13_1).f2) x49_3).f0) ≤ ((rd_T56 ((rd_T52 l0 x13_1).f2) (ji44)).f0)) = true := decide_eq_true c47
                      clear c47
                      obtain rfl := Option.some.inj H
                      have p207 : 0 ≤ (x49_3 : Int) := of_decide_eq_true (by first | (with_reducible assumption) | assumption)
                      have q207 : x49_3 < (((rd_T52 l0 x13_1).f2).length : Int) := of_decide_eq_true (by first | (with_reducible assumption) | assumption)
                      obtain ⟨ad207, e207, hx207_0, hx207_1⟩ := at_T56 HR203_2.out x49_3 p207 q207
                      cases e207
                      try (replace hx207_0 := (HB.out.cell (World.block_lt_of_cell? w _ hx207_0)).trans hx207_0)
                      try (replace hx207_1 := (HB.out.cell (World.block_lt_of_cell? w _ hx207_1)).trans hx207_1)
                      replace p207 := eq_true p207
                      replace q207 := eq_true q207
                      try go_wp2_with (first | ((with_reducible refine gate_dst (N := 7) rfl ?_); (try (refine gate_guard (by rfl) ?_; dsimp only)); refine box_event ?hg (N := 7) ?hd (cs := #[.int .i64 0, .string (⟨#[]⟩ : ByteArray)]) (t := 56) ?hr ?_; (case hd => rfl); (case hg => rfl); (case hr => first | (go_simp; done) | (go_simp; rfl)); intro gb208 hg w48 hbox hb; have n0_ := Aside0.mk (blk_below (g := gb204) (qK BK204.out) hb); have n1_ := Aside0.mk (below_step (qG GE204.out) hb); have n2_ := Aside0.mk (hbox); have n3_ := Aside0.mk ((by rw [hg]; exact (below_size (qG GE204.out)) : w.heap.size ≤ gb208)); have n4_ := Aside0.mk ((by rw [hg]; exact (below_size (qG GE204.out)) : w.heap.size ≤ gb208)); have n5_ := Aside0.mk ((by rw [hg]; exact Nat.ne_of_lt (blk_lt (g := gb204) (qK BK204.out)) : gb204 ≠ gb208)); have n6_ := Aside0.mk ((by rw [hg]; exact Nat.ne_of_gt (blk_lt (g := gb204) (qK BK204.out)) : gb208 ≠ gb204)); clear BK204; clear HB; have BK204 := n0_; have HB := n1_; have BK208 := n2_; have GW208 := n3_; have GE208 := n4_; have NB204_208 := n5_; have NB208_204 := n6_; clear n0_ n1_ n2_ n3_ n4_ n5_ n6_; clear hb hbox hg; have hnb49 := NB208_204.out; have hnc49 := NB204_208.out; have hcz50_0 : w48.cell? ⟨gb208, 0, none⟩ = some (.int .i64 0) := (blk_cell BK208.out 0).trans rfl; have hcz50_1 : w48.cell? ⟨gb208, 1, none⟩ = some (.string (⟨#[]⟩ : ByteArray)) := (blk_cell BK208.out 1).trans rfl; have hfz50_0 := blk_frozen BK208.out 0; have hfz50_1 := blk_frozen BK208.out 1))
                      have n0_ : Aside0 (((w48.setCell ⟨gb208, 0, none⟩ (.int .i64 ((rd_T56 ((rd_T52 l0 x13_1).f2) x49_3).f0))).setCell ⟨gb208, 1, none⟩ (.string ((rd_T56 ((rd_T52 l0 x13_1).f2) x49_3).f1))).heap[gb204]? = some (.cells #[.string ((rd_T52 l0 x13_1).f0), .int .i64 ((rd_T52 l0 x13_1).f1), .slice (some ad207) ((rd_T52 l0 x13_1).f2).length c203_2] 52 (0, 0))) := ⟨by (with_reducible repeat (first | refine blk_drewN ?_ _ | refine blk_drew ?_ | refine blk_alloc ?_ _)); refine blk_far ?_ NB204_208.out _; (with_reducible repeat (first | refine blk_drewN ?_ _ | refine blk_drew ?_ | refine blk_alloc ?_ _)); refine blk_far ?_ NB204_208.out _; (with_reducible repeat (first | refine blk_drewN ?_ _ | refine blk_drew ?_ | refine blk_alloc ?_ _)); exact BK204.out⟩
                      have n1_ : Aside0 (((w48.setCell ⟨gb208, 0, none⟩ (.int .i64 ((rd_T56 ((rd_T52 l0 x13_1).f2) x49_3).f0))).setCell ⟨gb208, 1, none⟩ (.string ((rd_T56 ((rd_T52 l0 x13_1).f2) x49_3).f1))).heap[gb208]? = some (.cells #[.int .i64 ((rd_T56 ((rd_T52 l0 x13_1).f2) x49_3).f0), .string ((rd_T56 ((rd_T52 l0 x13_1).f2) x49_3).f1)] 56 (0, 0))) := ⟨by (with_reducible repeat (first | refine blk_drewN ?_ _ | refine blk_drew ?_ | refine blk_alloc ?_ _)); refine blk_put (cs := #[.int .i64 ((rd_T56 ((rd_T52 l0 x13_1).f2) x49_3).f0), .string (⟨#[]⟩ : ByteArray)]) ?_ 1 _ rfl; (with_reducible repeat (first | refine blk_drewN ?_ _ | refine blk_drew ?_ | refine blk_alloc ?_ _)); refine blk_put (cs := #[.int .i64 0, .string (⟨#[]⟩ : ByteArray)]) ?_ 0 _ rfl; (with_reducible repeat (first | refine blk_drewN ?_ _ | refine blk_drew ?_ | refine blk_alloc ?_ _)); exact BK208.out⟩
                      have n2_ : Aside0 (Below w.heap.size w ((w48.setCell ⟨gb208, 0, none⟩ (.int .i64 ((rd_T56 ((rd_T52 l0 x13_1).f2) x49_3).f0))).setCell ⟨gb208, 1, none⟩ (.string ((rd_T56 ((rd_T52 l0 x13_1).f2) x49_3).f1)))) := ⟨by repeat (first | (with_reducible first | exact HB.out | apply below_alloc | apply pw_below_drewN | apply below_drew1 | refine below_set ?_ GE204.out | refine below_set ?_ GE208.out) | exact HB.out)⟩
                      (try clear BK204)
                      (try clear BK208)
                      (try clear HB)
                      generalize ((w48.setCell ⟨gb208, 0, none⟩ (.int .i64 ((rd_T56 ((rd_T52 l0 x13_1).f2) x49_3).f0))).setCell ⟨gb208, 1, none⟩ (.string ((rd_T56 ((rd_T52 l0 x13_1).f2) x49_3).f1))) = w51 at n0_ n1_ n2_ ⊢
                      have BK204 := n0_
                      have BK208 := n1_
                      have HB := n2_
                      clear n0_ n1_ n2_
                      have n0_ := Aside0.mk (blk_drew BK204.out)
                      have n1_ := Aside0.mk (blk_drew BK208.out)
                      have n2_ := Aside0.mk (below_drew1 HB.out)
                      clear BK204
                      clear BK208
                      clear HB
                      have BK204 := n0_
                      have BK208 := n1_
                      have HB := n2_
                      clear n0_ n1_ n2_
                      have p210 : 0 ≤ ((ji44) : Int) := of_decide_eq_true (by first | (with_reducible assumption) | assumption)
                      have q210 : (ji44) < (((rd_T52 l0 x13_1).f2).length : Int) := of_decide_eq_true (by first | (with_reducible assumption) | assumption)
                      obtain ⟨ad210, e210, hx210_0, hx210_1⟩ := at_T56 HR203_2.out (ji44) p210 q210
                      have hw210_1 := hx210_1
                      have hw210_0 := hx210_0
                      obtain rfl : ad207 = ad210 := (by injection e210)
                      try (replace hx210_0 := (HB.out.cell (World.block_lt_of_cell? w _ hx210_0)).trans hx210_0)
                      try (replace hx210_1 := (HB.out.cell (World.block_lt_of_cell? w _ hx210_1)).trans hx210_1)
                      replace p210 := eq_true p210
                      replace q210 := eq_true q210
                      refine start_ (n := 30) (S := fun w' => w'.cell? ⟨gb208, 0, none⟩ = some (.int .i64 ((rd_T56 ((rd_T52 l0 x13_1).f2) x49_3).f0)) ∧ w'.cell? ⟨gb208, 1, none⟩ = some (.string ((rd_T56 ((rd_T52 l0 x13_1).f2) x49_3).f1)) ∧ w'.cell? ⟨gb204, 0, none⟩ = some (.string ((rd_T52 l0 x13_1).f0)) ∧ w'.cell? ⟨gb204, 1, none⟩ = some (.int .i64 ((rd_T52 l0 x13_1).f1)) ∧ w'.cell? ⟨gb204, 2, none⟩ = some (.slice (some ad207) ((rd_T52 l0 x13_1).f2).length c203_2) ∧ w'.cell? (ad207.add (((ji44)).toNat * 2)) = some (.int .i64 ((rd_T56 ((rd_T52 l0 x13_1).f2) (ji44)).f0)) ∧ w'.cell? ⟨(ad207.add (((ji44)).toNat * 2)).block, (ad207.add (((ji44)).toNat * 2)).off + 1, none⟩ = some (.string ((rd_T56 ((rd_T52 l0 x13_1).f2) (ji44)).f1))) (ds := []) (tf 30 0) (by kernel_rfl) rfl rfl ⟨(blk_cell BK208.out 0).trans rfl, (blk_cell BK208.out 1).trans rfl, (blk_cell BK204.out 0).trans rfl, (blk_cell BK204.out 1).trans rfl, (blk_cell BK204.out 2).trans rfl, ((HB.out.cell (World.block_lt_of_cell? w _ hw210_0)).trans hw210_0), ((HB.out.cell (World.block_lt_of_cell? w _ hw210_1)).trans hw210_1)⟩ (fun hHeld => ?_); refine with_tabW impl_ProfilesOk.tab12 impl_ProfilesOk.bits12 (fun HT_ HW_ => ?_)
                      generalize w51.drew = w52 at BK204 BK208 HB hx210_0 hx210_1 hHeld ⊢
                      refine qA 0 54 (tf 30 1) ?_
                      refine qT 1 55 (tf 30 3) ?_
                      refine qA 2 56 (tf 30 7) ?_
                      refine qA 3 57 (tf 30 15) ?_
                      refine qA 4 58 (tf 30 31) ?_
                      refine qT 5 59 (tf 30 63) ?_
                      refine qA 6 60 (tf 30 127) ?_
                      refine qA 7 61 (tf 30 255) ?_
                      refine qA 8 62 (tf 30 511) ?_
                      refine qA 9 63 (tf 30 1023) ?_
                      refine qT 10 64 (tf 30 2047) ?_
                      refine one_ (i := 11) (N := some 65) (tf 30 4095) rfl rfl (one_of HT_.out (by kernel_rfl)) (by decide) (fun K hK => ?_)
                      refine goes_ Try.func35 (by kernel_rfl) rfl #[.string ((rd_T56 ((rd_T52 l0 x13_1).f2) x49_3).f1)] (by rfl) rfl rfl (by (try simp only [List.map_toArray, List.map_cons, List.map_nil]); first | done | rfl | (simp only [List.length_drop, List.length_take]; rfl)) ?_
                      with_reducible refine (impl_AddressOk.calls k3 ((rd_T56 ((rd_T52 l0 x13_1).f2) x49_3).f1) true _ A41.out).mono ?_
                      rintro e w' ⟨rfl, ⟨nd, rfl⟩⟩
                      refine ⟨_, rfl, ?_⟩
                      refine hK.out _ _ ⟨(blk_cell BK208.out 0).trans rfl, (blk_cell BK208.out 1).trans rfl, (blk_cell BK204.out 0).trans rfl, (blk_cell BK204.out 1).trans rfl, (blk_cell BK204.out 2).trans rfl, ((HB.out.cell (World.block_lt_of_cell? w _ hw210_0)).trans hw210_0), ((HB.out.cell (World.block_lt_of_cell? w _ hw210_1)).trans hw210_1)⟩ (fun hHeld => ?_)
                      clear hK K
                      refine norm_ (a' := ?_) ?_ ?_
                      rotate_left
                      ·show Act.put _ (some 65) _ = _
                       simp only [Act.put, sT, s0, sS, i64_w, i32_w]
                       rfl
                      refine qA 12 66 (tf 30 8191) ?_
                      refine qA 13 67 (tf 30 16383) ?_
                      refine qA 14 68 (tf 30 32767) ?_
                      refine qA 15 69 (tf 30 65535) ?_
                      refine qA 16 70 (tf 30 131071) ?_
                      refine qA 17 71 (tf 30 262143) ?_
                      refine qA 18 72 (tf 30 524287) ?_
                      refine qA 20 74 (tf 30 1572863) ?_
                      refine qA 21 75 (tf 30 3670015) ?_
                      refine qA 25 79 (tf 30 37224447) ?_
                      refine qT 19 73 (tf 30 37748735) ?_
                      refine qA 22 76 (tf 30 41943039) ?_
                      refine qA 23 77 (tf 30 50331647) ?_
                      refine qT 24 78 (tf 30 67108863) ?_
                      refine qT 26 80 (tf 30 134217727) ?_
                      refine qA 27 81 (tf 30 268435455) ?_
                      refine qA 28 82 (tf 30 536870911) ?_
                      refine qA 29 83 (tf 30 1073741823) ?_
                      refine done_ (done_of HT_.out (by kernel_rfl)) ?_
                      try go_wp2
                      go_ret
                      exact ⟨by first | rfl | (simp [errW_none, errW_some] <;> rfl) | (simp only [← hji44]; first | rfl | (simp [errW_none, errW_some] <;> rfl)) | (simp [*, errW_none, errW_some] <;> rfl), by repeat (first | (with_reducible first | exact HB.out | apply below_alloc | apply pw_below_drewN | apply below_drew1 | refine below_set ?_ GE204.out | refine below_set ?_ GE208.out) | exact HB.out)⟩
                     ·rw [if_neg c47] at H
                      have c47b0 : decide (((rd_T56 ((rd_T52 l0 x13_1).f2) x49_3).f0) ≤ ((rd_T56 ((rd_T52 l0 x13_1).f2) (ji44)).f0)) = false := decide_eq_false c47
                      clear c47
                      by_cases c53 : x5_3 = true
                      ·subst c53
                       have H1 : (impl_ProfilesOk.l1 k3 l0 true l0 (l0.length : Int) x13_1 ((rd_T52 l0 x13_1).f2) (((rd_T52 l0 x13_1).f2).length : Int) (wrap64 (x49_3 + 1)) ((rd_T52 l0 x13_1).f0) ((rd_T52 l0 x13_1).f1) ((rd_T52 l0 x13_1).f2)) = some r := by rw [if_pos rfl] at H; exact H
                       clear H
                       have H := H1
                       clear H1
                       have H' := Aside0.mk H
                       clear H
                       have p207 : 0 ≤ (x49_3 : Int) := of_decide_eq_true (by first | (with_reducible assumption) | assumption)
                       have q207 : x49_3 < (((rd_T52 l0 x13_1).f2).length : Int) := of_decide_eq_true (by first | (with_reducible assumption) | assumption)
                       obtain ⟨ad207, e207, hx207_0, hx207_1⟩ := at_T56 HR203_2.out x49_3 p207 q207
                       cases e207
                       try (replace hx207_0 := (HB.out.cell (World.block_lt_of_cell? w _ hx207_0)).trans hx207_0)
                       try (replace hx207_1 := (HB.out.cell (World.block_lt_of_cell? w _ hx207_1)).trans hx207_1)
                       replace p207 := eq_true p207
                       replace q207 := eq_true q207
                       try go_wp2_with (first | ((with_reducible refine gate_dst (N := 7) rfl ?_); (try (refine gate_guard (by rfl) ?_; dsimp only)); refine box_event ?hg (N := 7) ?hd (cs := #[.int .i64 0, .string (⟨#[]⟩ : ByteArray)]) (t := 56) ?hr ?_; (case hd => rfl); (case hg => rfl); (case hr => first | (go_simp; done) | (go_simp; rfl)); intro gb208 hg w54 hbox hb; have n0_ := Aside0.mk (blk_below (g := gb204) (qK BK204.out) hb); have n1_ := Aside0.mk (below_step (qG GE204.out) hb); have n2_ := Aside0.mk (hbox); have n3_ := Aside0.mk ((by rw [hg]; exact (below_size (qG GE204.out)) : w.heap.size ≤ gb208)); have n4_ := Aside0.mk ((by rw [hg]; exact (below_size (qG GE204.out)) : w.heap.size ≤ gb208)); have n5_ := Aside0.mk ((by rw [hg]; exact Nat.ne_of_lt (blk_lt (g := gb204) (qK BK204.out)) : gb204 ≠ gb208)); have n6_ := Aside0.mk ((by rw [hg]; exact Nat.ne_of_gt (blk_lt (g := gb204) (qK BK204.out)) : gb208 ≠ gb204)); clear BK204; clear HB; have BK204 := n0_; have HB := n1_; have BK208 := n2_; have GW208 := n3_; have GE208 := n4_; have NB204_208 := n5_; have NB208_204 := n6_; clear n0_ n1_ n2_ n3_ n4_ n5_ n6_; clear hb hbox hg; have hnb55 := NB208_204.out; have hnc55 := NB204_208.out; have hcz56_0 : w54.cell? ⟨gb208, 0, none⟩ = some (.int .i64 0) := (blk_cell BK208.out 0).trans rfl; have hcz56_1 : w54.cell? ⟨gb208, 1, none⟩ = some (.string (⟨#[]⟩ : ByteArray)) := (blk_cell BK208.out 1).trans rfl; have hfz56_0 := blk_frozen BK208.out 0; have hfz56_1 := blk_frozen BK208.out 1))
                       have n0_ : Aside0 (((w54.setCell ⟨gb208, 0, none⟩ (.int .i64 ((rd_T56 ((rd_T52 l0 x13_1).f2) x49_3).f0))).setCell ⟨gb208, 1, none⟩ (.string ((rd_T56 ((rd_T52 l0 x13_1).f2) x49_3).f1))).heap[gb204]? = some (.cells #[.string ((rd_T52 l0 x13_1).f0), .int .i64 ((rd_T52 l0 x13_1).f1), .slice (some ad207) ((rd_T52 l0 x13_1).f2).length c203_2] 52 (0, 0))) := ⟨by (with_reducible repeat (first | refine blk_drewN ?_ _ | refine blk_drew ?_ | refine blk_alloc ?_ _)); refine blk_far ?_ NB204_208.out _; (with_reducible repeat (first | refine blk_drewN ?_ _ | refine blk_drew ?_ | refine blk_alloc ?_ _)); refine blk_far ?_ NB204_208.out _; (with_reducible repeat (first | refine blk_drewN ?_ _ | refine blk_drew ?_ | refine blk_alloc ?_ _)); exact BK204.out⟩
                       have n1_ : Aside0 (((w54.setCell ⟨gb208, 0, none⟩ (.int .i64 ((rd_T56 ((rd_T52 l0 x13_1).f2) x49_3).f0))).setCell ⟨gb208, 1, none⟩ (.string ((rd_T56 ((rd_T52 l0 x13_1).f2) x49_3).f1))).heap[gb208]? = some (.cells #[.int .i64 ((rd_T56 ((rd_T52 l0 x13_1).f2) x49_3).f0), .string ((rd_T56 ((rd_T52 l0 x13_1).f2) x49_3).f1)] 56 (0, 0))) := ⟨by (with_reducible repeat (first | refine blk_drewN ?_ _ | refine blk_drew ?_ | refine blk_alloc ?_ _)); refine blk_put (cs := #[.int .i64 ((rd_T56 ((rd_T52 l0 x13_1).f2) x49_3).f0), .string (⟨#[]⟩ : ByteArray)]) ?_ 1 _ rfl; (with_reducible repeat (first | refine blk_drewN ?_ _ | refine blk_drew ?_ | refine blk_alloc ?_ _)); refine blk_put (cs := #[.int .i64 0, .string (⟨#[]⟩ : ByteArray)]) ?_ 0 _ rfl; (with_reducible repeat (first | refine blk_drewN ?_ _ | refine blk_drew ?_ | refine blk_alloc ?_ _)); exact BK208.out⟩
                       have n2_ : Aside0 (Below w.heap.size w ((w54.setCell ⟨gb208, 0, none⟩ (.int .i64 ((rd_T56 ((rd_T52 l0 x13_1).f2) x49_3).f0))).setCell ⟨gb208, 1, none⟩ (.string ((rd_T56 ((rd_T52 l0 x13_1).f2) x49_3).f1)))) := ⟨by repeat (first | (with_reducible first | exact HB.out | apply below_alloc | apply pw_below_drewN | apply below_drew1 | refine below_set ?_ GE204.out | refine below_set ?_ GE208.out) | exact HB.out)⟩
                       (try clear BK204)
                       (try clear BK208)
                       (try clear HB)
                       generalize ((w54.setCell ⟨gb208, 0, none⟩ (.int .i64 ((rd_T56 ((rd_T52 l0 x13_1).f2) x49_3).f0))).setCell ⟨gb208, 1, none⟩ (.string ((rd_T56 ((rd_T52 l0 x13_1).f2) x49_3).f1))) = w57 at n0_ n1_ n2_ ⊢
                       have BK204 := n0_
                       have BK208 := n1_
                       have HB := n2_
                       clear n0_ n1_ n2_
                       have n0_ := Aside0.mk (blk_drew BK204.out)
                       have n1_ := Aside0.mk (blk_drew BK208.out)
                       have n2_ := Aside0.mk (below_drew1 HB.out)
                       clear BK204
                       clear BK208
                       clear HB
                       have BK204 := n0_
                       have BK208 := n1_
                       have HB := n2_
                       clear n0_ n1_ n2_
                       have p210 : 0 ≤ ((ji44) : Int) := of_decide_eq_true (by first | (with_reducible assumption) | assumption)
                       have q210 : (ji44) < (((rd_T52 l0 x13_1).f2).length : Int) := of_decide_eq_true (by first | (with_reducible assumption) | assumption)
                       obtain ⟨ad210, e210, hx210_0, hx210_1⟩ := at_T56 HR203_2.out (ji44) p210 q210
                       have hw210_1 := hx210_1
                       have hw210_0 := hx210_0
                       obtain rfl : ad207 = ad210 := (by injection e210)
                       try (replace hx210_0 := (HB.out.cell (World.block_lt_of_cell? w _ hx210_0)).trans hx210_0)
                       try (replace hx210_1 := (HB.out.cell (World.block_lt_of_cell? w _ hx210_1)).trans hx210_1)
                       replace p210 := eq_true p210
                       replace q210 := eq_true q210
                       refine start_ (n := 30) (S := fun w' => w'.cell? ⟨gb208, 0, none⟩ = some (.int .i64 ((rd_T56 ((rd_T52 l0 x13_1).f2) x49_3).f0)) ∧ w'.cell? ⟨gb208, 1, none⟩ = some (.string ((rd_T56 ((rd_T52 l0 x13_1).f2) x49_3).f1)) ∧ w'.cell? ⟨gb204, 0, none⟩ = some (.string ((rd_T52 l0 x13_1).f0)) ∧ w'.cell? ⟨gb204, 1, none⟩ = some (.int .i64 ((rd_T52 l0 x13_1).f1)) ∧ w'.cell? ⟨gb204, 2, none⟩ = some (.slice (some ad207) ((rd_T52 l0 x13_1).f2).length c203_2) ∧ w'.cell? (ad207.add (((ji44)).toNat * 2)) = some (.int .i64 ((rd_T56 ((rd_T52 l0 x13_1).f2) (ji44)).f0)) ∧ w'.cell? ⟨(ad207.add (((ji44)).toNat * 2)).block, (ad207.add (((ji44)).toNat * 2)).off + 1, none⟩ = some (.string ((rd_T56 ((rd_T52 l0 x13_1).f2) (ji44)).f1))) (ds := []) (tf 30 0) (by kernel_rfl) rfl rfl ⟨(blk_cell BK208.out 0).trans rfl, (blk_cell BK208.out 1).trans rfl, (blk_cell BK204.out 0).trans rfl, (blk_cell BK204.out 1).trans rfl, (blk_cell BK204.out 2).trans rfl, ((HB.out.cell (World.block_lt_of_cell? w _ hw210_0)).trans hw210_0), ((HB.out.cell (World.block_lt_of_cell? w _ hw210_1)).trans hw210_1)⟩ (fun hHeld => ?_); refine with_tabW impl_ProfilesOk.tab12 impl_ProfilesOk.bits12 (fun HT_ HW_ => ?_)
                       generalize w57.drew = w58 at BK204 BK208 HB hx210_0 hx210_1 hHeld ⊢
                       refine qA 0 54 (tf 30 1) ?_
                       refine qT 1 55 (tf 30 3) ?_
                       refine qA 2 56 (tf 30 7) ?_
                       refine qA 3 57 (tf 30 15) ?_
                       refine qA 4 58 (tf 30 31) ?_
                       refine qT 5 59 (tf 30 63) ?_
                       refine qA 6 60 (tf 30 127) ?_
                       refine qA 7 61 (tf 30 255) ?_
                       refine qA 8 62 (tf 30 511) ?_
                       refine qA 9 63 (tf 30 1023) ?_
                       refine qT 10 64 (tf 30 2047) ?_
                       refine one_ (i := 11) (N := some 65) (tf 30 4095) rfl rfl (one_of HT_.out (by kernel_rfl)) (by decide) (fun K hK => ?_)
                       refine goes_ Try.func35 (by kernel_rfl) rfl #[.string ((rd_T56 ((rd_T52 l0 x13_1).f2) x49_3).f1)] (by rfl) rfl rfl (by (try simp only [List.map_toArray, List.map_cons, List.map_nil]); first | done | rfl | (simp only [List.length_drop, List.length_take]; rfl)) ?_
                       with_reducible refine (impl_AddressOk.calls k3 ((rd_T56 ((rd_T52 l0 x13_1).f2) x49_3).f1) true _ A41.out).mono ?_
                       rintro e w' ⟨rfl, ⟨nd, rfl⟩⟩
                       refine ⟨_, rfl, ?_⟩
                       refine hK.out _ _ ⟨(blk_cell BK208.out 0).trans rfl, (blk_cell BK208.out 1).trans rfl, (blk_cell BK204.out 0).trans rfl, (blk_cell BK204.out 1).trans rfl, (blk_cell BK204.out 2).trans rfl, ((HB.out.cell (World.block_lt_of_cell? w _ hw210_0)).trans hw210_0), ((HB.out.cell (World.block_lt_of_cell? w _ hw210_1)).trans hw210_1)⟩ (fun hHeld => ?_)
                       clear hK K
                       refine norm_ (a' := ?_) ?_ ?_
                       rotate_left
                       ·show Act.put _ (some 65) _ = _
                        simp only [Act.put, sT, s0, sS, i64_w, i32_w]
                        rfl
                       refine qA 12 66 (tf 30 8191) ?_
                       refine qA 13 67 (tf 30 16383) ?_
                       refine qA 14 68 (tf 30 32767) ?_
                       refine qA 15 69 (tf 30 65535) ?_
                       refine qA 16 70 (tf 30 131071) ?_
                       refine qA 17 71 (tf 30 262143) ?_
                       refine qA 18 72 (tf 30 524287) ?_
                       refine qA 20 74 (tf 30 1572863) ?_
                       refine qA 21 75 (tf 30 3670015) ?_
                       refine qA 25 79 (tf 30 37224447) ?_
                       refine qT 19 73 (tf 30 37748735) ?_
                       refine qA 22 76 (tf 30 41943039) ?_
                       refine qA 23 77 (tf 30 50331647) ?_
                       refine qT 24 78 (tf 30 67108863) ?_
                       refine qT 26 80 (tf 30 134217727) ?_
                       refine qA 27 81 (tf 30 268435455) ?_
                       refine qA 28 82 (tf 30 536870911) ?_
                       refine qA 29 83 (tf 30 1073741823) ?_
                       refine done_ (done_of HT_.out (by kernel_rfl)) ?_
                       try go_wp2
                       go_roundg k3
                       case measure => have := HK1.out; have := HJ5.out; have := HK3.out; omega
                       case rel => exact ⟨(true), (wrap64 (x49_3 + 1)), (by first | rfl | (simp; done) | (simp [*]; done)), (by first | rfl | (simp; done) | (simp [*]; done)), H', ⟨by have := HK1.out; have := HJ5.out; have := HK3.out; omega⟩, ⟨by (with_reducible repeat (first | refine blk_drewN ?_ _ | refine blk_drew ?_ | refine blk_alloc ?_ _)); exact BK204.out⟩, ⟨by repeat (first | (with_reducible first | exact HB.out | apply below_alloc | apply pw_below_drewN | apply below_drew1 | refine below_set ?_ GE204.out | refine below_set ?_ GE208.out) | exact HB.out)⟩⟩
                      ·replace c53 := Bool.eq_false_iff.mpr c53
                       subst c53
                       have H1 : (impl_ProfilesOk.l1 k3 l0 (((rd_T56 ((rd_T52 l0 x13_1).f2) x49_3).f0) == ((rd_T52 l0 x13_1).f1)) l0 (l0.length : Int) x13_1 ((rd_T52 l0 x13_1).f2) (((rd_T52 l0 x13_1).f2).length : Int) (wrap64 (x49_3 + 1)) ((rd_T52 l0 x13_1).f0) ((rd_T52 l0 x13_1).f1) ((rd_T52 l0 x13_1).f2)) = some r := by rw [if_neg (show ¬ (false = true) by decide)] at H; exact H
                       clear H
                       have H := H1
                       clear H1
                       have H' := Aside0.mk H
                       clear H
                       have p207 : 0 ≤ (x49_3 : Int) := of_decide_eq_true (by first | (with_reducible assumption) | assumption)
                       have q207 : x49_3 < (((rd_T52 l0 x13_1).f2).length : Int) := of_decide_eq_true (by first | (with_reducible assumption) | assumption)
                       obtain ⟨ad207, e207, hx207_0, hx207_1⟩ := at_T56 HR203_2.out x49_3 p207 q207
                       cases e207
                       try (replace hx207_0 := (HB.out.cell (World.block_lt_of_cell? w _ hx207_0)).trans hx207_0)
                       try (replace hx207_1 := (HB.out.cell (World.block_lt_of_cell? w _ hx207_1)).trans hx207_1)
                       replace p207 := eq_true p207
                       replace q207 := eq_true q207
                       try go_wp2_with (first | ((with_reducible refine gate_dst (N := 7) rfl ?_); (try (refine gate_guard (by rfl) ?_; dsimp only)); refine box_event ?hg (N := 7) ?hd (cs := #[.int .i64 0, .string (⟨#[]⟩ : ByteArray)]) (t := 56) ?hr ?_; (case hd => rfl); (case hg => rfl); (case hr => first | (go_simp; done) | (go_simp; rfl)); intro gb208 hg w59 hbox hb; have n0_ := Aside0.mk (blk_below (g := gb204) (qK BK204.out) hb); have n1_ := Aside0.mk (below_step (qG GE204.out) hb); have n2_ := Aside0.mk (hbox); have n3_ := Aside0.mk ((by rw [hg]; exact (below_size (qG GE204.out)) : w.heap.size ≤ gb208)); have n4_ := Aside0.mk ((by rw [hg]; exact (below_size (qG GE204.out)) : w.heap.size ≤ gb208)); have n5_ := Aside0.mk ((by rw [hg]; exact Nat.ne_of_lt (blk_lt (g := gb204) (qK BK204.out)) : gb204 ≠ gb208)); have n6_ := Aside0.mk ((by rw [hg]; exact Nat.ne_of_gt (blk_lt (g := gb204) (qK BK204.out)) : gb208 ≠ gb204)); clear BK204; clear HB; have BK204 := n0_; have HB := n1_; have BK208 := n2_; have GW208 := n3_; have GE208 := n4_; have NB204_208 := n5_; have NB208_204 := n6_; clear n0_ n1_ n2_ n3_ n4_ n5_ n6_; clear hb hbox hg; have hnb60 := NB208_204.out; have hnc60 := NB204_208.out; have hcz61_0 : w59.cell? ⟨gb208, 0, none⟩ = some (.int .i64 0) := (blk_cell BK208.out 0).trans rfl; have hcz61_1 : w59.cell? ⟨gb208, 1, none⟩ = some (.string (⟨#[]⟩ : ByteArray)) := (blk_cell BK208.out 1).trans rfl; have hfz61_0 := blk_frozen BK208.out 0; have hfz61_1 := blk_frozen BK208.out 1))
                       have n0_ : Aside0 (((w59.setCell ⟨gb208, 0, none⟩ (.int .i64 ((rd_T56 ((rd_T52 l0 x13_1).f2) x49_3).f0))).setCell ⟨gb208, 1, none⟩ (.string ((rd_T56 ((rd_T52 l0 x13_1).f2) x49_3).f1))).heap[gb204]? = some (.cells #[.string ((rd_T52 l0 x13_1).f0), .int .i64 ((rd_T52 l0 x13_1).f1), .slice (some ad207) ((rd_T52 l0 x13_1).f2).length c203_2] 52 (0, 0))) := ⟨by (with_reducible repeat (first | refine blk_drewN ?_ _ | refine blk_drew ?_ | refine blk_alloc ?_ _)); refine blk_far ?_ NB204_208.out _; (with_reducible repeat (first | refine blk_drewN ?_ _ | refine blk_drew ?_ | refine blk_alloc ?_ _)); refine blk_far ?_ NB204_208.out _; (with_reducible repeat (first | refine blk_drewN ?_ _ | refine blk_drew ?_ | refine blk_alloc ?_ _)); exact BK204.out⟩
                       have n1_ : Aside0 (((w59.setCell ⟨gb208, 0, none⟩ (.int .i64 ((rd_T56 ((rd_T52 l0 x13_1).f2) x49_3).f0))).setCell ⟨gb208, 1, none⟩ (.string ((rd_T56 ((rd_T52 l0 x13_1).f2) x49_3).f1))).heap[gb208]? = some (.cells #[.int .i64 ((rd_T56 ((rd_T52 l0 x13_1).f2) x49_3).f0), .string ((rd_T56 ((rd_T52 l0 x13_1).f2) x49_3).f1)] 56 (0, 0))) := ⟨by (with_reducible repeat (first | refine blk_drewN ?_ _ | refine blk_drew ?_ | refine blk_alloc ?_ _)); refine blk_put (cs := #[.int .i64 ((rd_T56 ((rd_T52 l0 x13_1).f2) x49_3).f0), .string (⟨#[]⟩ : ByteArray)]) ?_ 1 _ rfl; (with_reducible repeat (first | refine blk_drewN ?_ _ | refine blk_drew ?_ | refine blk_alloc ?_ _)); refine blk_put (cs := #[.int .i64 0, .string (⟨#[]⟩ : ByteArray)]) ?_ 0 _ rfl; (with_reducible repeat (first | refine blk_drewN ?_ _ | refine blk_drew ?_ | refine blk_alloc ?_ _)); exact BK208.out⟩
                       have n2_ : Aside0 (Below w.heap.size w ((w59.setCell ⟨gb208, 0, none⟩ (.int .i64 ((rd_T56 ((rd_T52 l0 x13_1).f2) x49_3).f0))).setCell ⟨gb208, 1, none⟩ (.string ((rd_T56 ((rd_T52 l0 x13_1).f2) x49_3).f1)))) := ⟨by repeat (first | (with_reducible first | exact HB.out | apply below_alloc | apply pw_below_drewN | apply below_drew1 | refine below_set ?_ GE204.out | refine below_set ?_ GE208.out) | exact HB.out)⟩
                       (try clear BK204)
                       (try clear BK208)
                       (try clear HB)
                       generalize ((w59.setCell ⟨gb208, 0, none⟩ (.int .i64 ((rd_T56 ((rd_T52 l0 x13_1).f2) x49_3).f0))).setCell ⟨gb208, 1, none⟩ (.string ((rd_T56 ((rd_T52 l0 x13_1).f2) x49_3).f1))) = w62 at n0_ n1_ n2_ ⊢
                       have BK204 := n0_
                       have BK208 := n1_
                       have HB := n2_
                       clear n0_ n1_ n2_
                       have n0_ := Aside0.mk (blk_drew BK204.out)
                       have n1_ := Aside0.mk (blk_drew BK208.out)
                       have n2_ := Aside0.mk (below_drew1 HB.out)
                       clear BK204
                       clear BK208
                       clear HB
                       have BK204 := n0_
                       have BK208 := n1_
                       have HB := n2_
                       clear n0_ n1_ n2_
                       have p210 : 0 ≤ ((ji44) : Int) := of_decide_eq_true (by first | (with_reducible assumption) | assumption)
                       have q210 : (ji44) < (((rd_T52 l0 x13_1).f2).length : Int) := of_decide_eq_true (by first | (with_reducible assumption) | assumption)
                       obtain ⟨ad210, e210, hx210_0, hx210_1⟩ := at_T56 HR203_2.out (ji44) p210 q210
                       have hw210_1 := hx210_1
                       have hw210_0 := hx210_0
                       obtain rfl : ad207 = ad210 := (by injection e210)
                       try (replace hx210_0 := (HB.out.cell (World.block_lt_of_cell? w _ hx210_0)).trans hx210_0)
                       try (replace hx210_1 := (HB.out.cell (World.block_lt_of_cell? w _ hx210_1)).trans hx210_1)
                       replace p210 := eq_true p210
                       replace q210 := eq_true q210
                       refine start_ (n := 30) (S := fun w' => w'.cell? ⟨gb208, 0, none⟩ = some (.int .i64 ((rd_T56 ((rd_T52 l0 x13_1).f2) x49_3).f0)) ∧ w'.cell? ⟨gb208, 1, none⟩ = some (.string ((rd_T56 ((rd_T52 l0 x13_1).f2) x49_3).f1)) ∧ w'.cell? ⟨gb204, 0, none⟩ = some (.string ((rd_T52 l0 x13_1).f0)) ∧ w'.cell? ⟨gb204, 1, none⟩ = some (.int .i64 ((rd_T52 l0 x13_1).f1)) ∧ w'.cell? ⟨gb204, 2, none⟩ = some (.slice (some ad207) ((rd_T52 l0 x13_1).f2).length c203_2) ∧ w'.cell? (ad207.add (((ji44)).toNat * 2)) = some (.int .i64 ((rd_T56 ((rd_T52 l0 x13_1).f2) (ji44)).f0)) ∧ w'.cell? ⟨(ad207.add (((ji44)).toNat * 2)).block, (ad207.add (((ji44)).toNat * 2)).off + 1, none⟩ = some (.string ((rd_T56 ((rd_T52 l0 x13_1).f2) (ji44)).f1))) (ds := []) (tf 30 0) (by kernel_rfl) rfl rfl ⟨(blk_cell BK208.out 0).trans rfl, (blk_cell BK208.out 1).trans rfl, (blk_cell BK204.out 0).trans rfl, (blk_cell BK204.out 1).trans rfl, (blk_cell BK204.out 2).trans rfl, ((HB.out.cell (World.block_lt_of_cell? w _ hw210_0)).trans hw210_0), ((HB.out.cell (World.block_lt_of_cell? w _ hw210_1)).trans hw210_1)⟩ (fun hHeld => ?_); refine with_tabW impl_ProfilesOk.tab12 impl_ProfilesOk.bits12 (fun HT_ HW_ => ?_)
                       generalize w62.drew = w63 at BK204 BK208 HB hx210_0 hx210_1 hHeld ⊢
                       refine qA 0 54 (tf 30 1) ?_
                       refine qT 1 55 (tf 30 3) ?_
                       refine qA 2 56 (tf 30 7) ?_
                       refine qA 3 57 (tf 30 15) ?_
                       refine qA 4 58 (tf 30 31) ?_
                       refine qT 5 59 (tf 30 63) ?_
                       refine qA 6 60 (tf 30 127) ?_
                       refine qA 7 61 (tf 30 255) ?_
                       refine qA 8 62 (tf 30 511) ?_
                       refine qA 9 63 (tf 30 1023) ?_
                       refine qT 10 64 (tf 30 2047) ?_
                       refine one_ (i := 11) (N := some 65) (tf 30 4095) rfl rfl (one_of HT_.out (by kernel_rfl)) (by decide) (fun K hK => ?_)
                       refine goes_ Try.func35 (by kernel_rfl) rfl #[.string ((rd_T56 ((rd_T52 l0 x13_1).f2) x49_3).f1)] (by rfl) rfl rfl (by (try simp only [List.map_toArray, List.map_cons, List.map_nil]); first | done | rfl | (simp only [List.length_drop, List.length_take]; rfl)) ?_
                       with_reducible refine (impl_AddressOk.calls k3 ((rd_T56 ((rd_T52 l0 x13_1).f2) x49_3).f1) true _ A41.out).mono ?_
                       rintro e w' ⟨rfl, ⟨nd, rfl⟩⟩
                       refine ⟨_, rfl, ?_⟩
                       refine hK.out _ _ ⟨(blk_cell BK208.out 0).trans rfl, (blk_cell BK208.out 1).trans rfl, (blk_cell BK204.out 0).trans rfl, (blk_cell BK204.out 1).trans rfl, (blk_cell BK204.out 2).trans rfl, ((HB.out.cell (World.block_lt_of_cell? w _ hw210_0)).trans hw210_0), ((HB.out.cell (World.block_lt_of_cell? w _ hw210_1)).trans hw210_1)⟩ (fun hHeld => ?_)
                       clear hK K
                       refine norm_ (a' := ?_) ?_ ?_
                       rotate_left
                       ·show Act.put _ (some 65) _ = _
                        simp only [Act.put, sT, s0, sS, i64_w, i32_w]
                        rfl
                       refine qA 12 66 (tf 30 8191) ?_
                       refine qA 13 67 (tf 30 16383) ?_
                       refine qA 14 68 (tf 30 32767) ?_
                       refine qA 15 69 (tf 30 65535) ?_
                       refine qA 16 70 (tf 30 131071) ?_
                       refine qA 17 71 (tf 30 262143) ?_
                       refine qA 18 72 (tf 30 524287) ?_
                       refine qA 20 74 (tf 30 1572863) ?_
                       refine qA 21 75 (tf 30 3670015) ?_
                       refine qA 25 79 (tf 30 37224447) ?_
                       refine qT 19 73 (tf 30 37748735) ?_
                       refine qA 22 76 (tf 30 41943039) ?_
                       refine qA 23 77 (tf 30 50331647) ?_
                       refine qT 24 78 (tf 30 67108863) ?_
                       refine qT 26 80 (tf 30 134217727) ?_
                       refine qA 27 81 (tf 30 268435455) ?_
                       refine qA 28 82 (tf 30 536870911) ?_
                       refine qA 29 83 (tf 30 1073741823) ?_
                       refine done_ (done_of HT_.out (by kernel_rfl)) ?_
                       have hcz64_0 : w63.cell? ⟨gb208, 0, none⟩ = some (.int .i64 ((rd_T56 ((rd_T52 l0 x13_1).f2) x49_3).f0)) := (blk_cell BK208.out 0).trans rfl
                       have hcz64_1 : w63.cell? ⟨gb208, 1, none⟩ = some (.string ((rd_T56 ((rd_T52 l0 x13_1).f2) x49_3).f1)) := (blk_cell BK208.out 1).trans rfl
                       have hfz64_0 := blk_frozen BK208.out 0
                       have hfz64_1 := blk_frozen BK208.out 1
                       have hcz65_0 : w63.cell? ⟨gb204, 0, none⟩ = some (.string ((rd_T52 l0 x13_1).f0)) := (blk_cell BK204.out 0).trans rfl
                       have hcz65_1 : w63.cell? ⟨gb204, 1, none⟩ = some (.int .i64 ((rd_T52 l0 x13_1).f1)) := (blk_cell BK204.out 1).trans rfl
                       have hcz65_2 : w63.cell? ⟨gb204, 2, none⟩ = some (.slice (some ad207) ((rd_T52 l0 x13_1).f2).length c203_2) := (blk_cell BK204.out 2).trans rfl
                       have hfz65_0 := blk_frozen BK204.out 0
                       have hfz65_1 := blk_frozen BK204.out 1
                       have hfz65_2 := blk_frozen BK204.out 2
                       try go_wp2
                       go_roundg k3
                       case measure => have := HK1.out; have := HJ5.out; have := HK3.out; omega
                       case rel => exact ⟨((((rd_T56 ((rd_T52 l0 x13_1).f2) x49_3).f0) == ((rd_T52 l0 x13_1).f1))), (wrap64 (x49_3 + 1)), (by first | rfl | (simp; done) | (simp [*]; done)), (by first | rfl | (simp; done) | (simp [*]; done)), H', ⟨by have := HK1.out; have := HJ5.out; have := HK3.out; omega⟩, ⟨by (with_reducible repeat (first | refine blk_drewN ?_ _ | refine blk_drew ?_ | refine blk_alloc ?_ _)); exact BK204.out⟩, ⟨by repeat (first | (with_reducible first | exact HB.out | apply below_alloc | apply pw_below_drewN | apply below_drew1 | refine below_set ?_ GE204.out | refine below_set ?_ GE208.out) | exact HB.out)⟩⟩
                    ·rw [if_neg c46] at H
                     exact absurd H (by simp)
                   ·rw [if_neg c45] at H
                    exact absurd H (by simp)
                  ·rw [if_neg c43] at H
                   have c43b0 : decide (0 < x49_3) = false := decide_eq_false c43
                   clear c43
                   by_cases c66 : x5_3 = true
                   ·subst c66
                    have H1 : (impl_ProfilesOk.l1 k3 l0 true l0 (l0.length : Int) x13_1 ((rd_T52 l0 x13_1).f2) (((rd_T52 l0 x13_1).f2).length : Int) (wrap64 (x49_3 + 1)) ((rd_T52 l0 x13_1).f0) ((rd_T52 l0 x13_1).f1) ((rd_T52 l0 x13_1).f2)) = some r := by rw [if_pos rfl] at H; exact H
                    clear H
                    have H := H1
                    clear H1
                    have H' := Aside0.mk H
                    clear H
                    have p207 : 0 ≤ (x49_3 : Int) := of_decide_eq_true (by first | (with_reducible assumption) | assumption)
                    have q207 : x49_3 < (((rd_T52 l0 x13_1).f2).length : Int) := of_decide_eq_true (by first | (with_reducible assumption) | assumption)
                    obtain ⟨ad207, e207, hx207_0, hx207_1⟩ := at_T56 HR203_2.out x49_3 p207 q207
                    cases e207
                    try (replace hx207_0 := (HB.out.cell (World.block_lt_of_cell? w _ hx207_0)).trans hx207_0)
                    try (replace hx207_1 := (HB.out.cell (World.block_lt_of_cell? w _ hx207_1)).trans hx207_1)
                    replace p207 := eq_true p207
                    replace q207 := eq_true q207
                    try go_wp2_with (first | ((with_reducible refine gate_dst (N := 7) rfl ?_); (try (refine gate_guard (by rfl) ?_; dsimp only)); refine box_event ?hg (N := 7) ?hd (cs := #[.int .i64 0, .string (⟨#[]⟩ : ByteArray)]) (t := 56) ?hr ?_; (case hd => rfl); (case hg => rfl); (case hr => first | (go_simp; done) | (go_simp; rfl)); intro gb208 hg w67 hbox hb; have n0_ := Aside0.mk (blk_below (g := gb204) (qK BK204.out) hb); have n1_ := Aside0.mk (below_step (qG GE204.out) hb); have n2_ := Aside0.mk (hbox); have n3_ := Aside0.mk ((by rw [hg]; exact (below_size (qG GE204.out)) : w.heap.size ≤ gb208)); have n4_ := Aside0.mk ((by rw [hg]; exact (below_size (qG GE204.out)) : w.heap.size ≤ gb208)); have n5_ := Aside0.mk ((by rw [hg]; exact Nat.ne_of_lt (blk_lt (g := gb204) (qK BK204.out)) : gb204 ≠ gb208)); have n6_ := Aside0.mk ((by rw [hg]; exact Nat.ne_of_gt (blk_lt (g := gb204) (qK BK204.out)) : gb208 ≠ gb204)); clear BK204; clear HB; have BK204 := n0_; have HB := n1_; have BK208 := n2_; have GW208 := n3_; have GE208 := n4_; have NB204_208 := n5_; have NB208_204 := n6_; clear n0_ n1_ n2_ n3_ n4_ n5_ n6_; clear hb hbox hg; have hnb68 := NB208_204.out; have hnc68 := NB204_208.out; have hcz69_0 : w67.cell? ⟨gb208, 0, none⟩ = some (.int .i64 0) := (blk_cell BK208.out 0).trans rfl; have hcz69_1 : w67.cell? ⟨gb208, 1, none⟩ = some (.string (⟨#[]⟩ : ByteArray)) := (blk_cell BK208.out 1).trans rfl; have hfz69_0 := blk_frozen BK208.out 0; have hfz69_1 := blk_frozen BK208.out 1))
                    have n0_ : Aside0 (((w67.setCell ⟨gb208, 0, none⟩ (.int .i64 ((rd_T56 ((rd_T52 l0 x13_1).f2) x49_3).f0))).setCell ⟨gb208, 1, none⟩ (.string ((rd_T56 ((rd_T52 l0 x13_1).f2) x49_3).f1))).heap[gb204]? = some (.cells #[.string ((rd_T52 l0 x13_1).f0), .int .i64 ((rd_T52 l0 x13_1).f1), .slice (some ad207) ((rd_T52 l0 x13_1).f2).length c203_2] 52 (0, 0))) := ⟨by (with_reducible repeat (first | refine blk_drewN ?_ _ | refine blk_drew ?_ | refine blk_alloc ?_ _)); refine blk_far ?_ NB204_208.out _; (with_reducible repeat (first | refine blk_drewN ?_ _ | refine blk_drew ?_ | refine blk_alloc ?_ _)); refine blk_far ?_ NB204_208.out _; (with_reducible repeat (first | refine blk_drewN ?_ _ | refine blk_drew ?_ | refine blk_alloc ?_ _)); exact BK204.out⟩
                    have n1_ : Aside0 (((w67.setCell ⟨gb208, 0, none⟩ (.int .i64 ((rd_T56 ((rd_T52 l0 x13_1).f2) x49_3).f0))).setCell ⟨gb208, 1, none⟩ (.string ((rd_T56 ((rd_T52 l0 x13_1).f2) x49_3).f1))).heap[gb208]? = some (.cells #[.int .i64 ((rd_T56 ((rd_T52 l0 x13_1).f2) x49_3).f0), .string ((rd_T56 ((rd_T52 l0 x13_1).f2) x49_3).f1)] 56 (0, 0))) := ⟨by (with_reducible repeat (first | refine blk_drewN ?_ _ | refine blk_drew ?_ | refine blk_alloc ?_ _)); refine blk_put (cs := #[.int .i64 ((rd_T56 ((rd_T52 l0 x13_1).f2) x49_3).f0), .string (⟨#[]⟩ : ByteArray)]) ?_ 1 _ rfl; (with_reducible repeat (first | refine blk_drewN ?_ _ | refine blk_drew ?_ | refine blk_alloc ?_ _)); refine blk_put (cs := #[.int .i64 0, .string (⟨#[]⟩ : ByteArray)]) ?_ 0 _ rfl; (with_reducible repeat (first | refine blk_drewN ?_ _ | refine blk_drew ?_ | refine blk_alloc ?_ _)); exact BK208.out⟩
                    have n2_ : Aside0 (Below w.heap.size w ((w67.setCell ⟨gb208, 0, none⟩ (.int .i64 ((rd_T56 ((rd_T52 l0 x13_1).f2) x49_3).f0))).setCell ⟨gb208, 1, none⟩ (.string ((rd_T56 ((rd_T52 l0 x13_1).f2) x49_3).f1)))) := ⟨by repeat (first | (with_reducible first | exact HB.out | apply below_alloc | apply pw_below_drewN | apply below_drew1 | refine below_set ?_ GE204.out | refine below_set ?_ GE208.out) | exact HB.out)⟩
                    (try clear BK204)
                    (try clear BK208)
                    (try clear HB)
                    generalize ((w67.setCell ⟨gb208, 0, none⟩ (.int .i64 ((rd_T56 ((rd_T52 l0 x13_1).f2) x49_3).f0))).setCell ⟨gb208, 1, none⟩ (.string ((rd_T56 ((rd_T52 l0 x13_1).f2) x49_3).f1))) = w70 at n0_ n1_ n2_ ⊢
                    have BK204 := n0_
                    have BK208 := n1_
                    have HB := n2_
                    clear n0_ n1_ n2_
                    have n0_ := Aside0.mk (blk_drew BK204.out)
                    have n1_ := Aside0.mk (blk_drew BK208.out)
                    have n2_ := Aside0.mk (below_drew1 HB.out)
                    clear BK204
                    clear BK208
                    clear HB
                    have BK204 := n0_
                    have BK208 := n1_
                    have HB := n2_
                    clear n0_ n1_ n2_
                    refine start_ (n := 30) (S := fun w' => w'.cell? ⟨gb208, 0, none⟩ = some (.int .i64 ((rd_T56 ((rd_T52 l0 x13_1).f2) x49_3).f0)) ∧ w'.cell? ⟨gb208, 1, none⟩ = some (.string ((rd_T56 ((rd_T52 l0 x13_1).f2) x49_3).f1))) (ds := []) (tf 30 0) (by kernel_rfl) rfl rfl ⟨(blk_cell BK208.out 0).trans rfl, (blk_cell BK208.out 1).trans rfl⟩ (fun hHeld => ?_); refine with_tabW impl_ProfilesOk.tab12 impl_ProfilesOk.bits12 (fun HT_ HW_ => ?_)
                    generalize w70.drew = w71 at BK204 BK208 HB hHeld ⊢
                    refine qA 0 54 (tf 30 1) ?_
                    refine qT 1 55 (tf 30 3) ?_
                    refine qA 2 56 (tf 30 7) ?_
                    refine qA 3 57 (tf 30 15) ?_
                    refine qA 4 58 (tf 30 31) ?_
                    refine qT 5 59 (tf 30 63) ?_
                    refine qA 6 60 (tf 30 127) ?_
                    refine qA 7 61 (tf 30 255) ?_
                    refine qA 8 62 (tf 30 511) ?_
                    refine qA 9 63 (tf 30 1023) ?_
                    refine qT 10 64 (tf 30 2047) ?_
                    refine one_ (i := 11) (N := some 65) (tf 30 4095) rfl rfl (one_of HT_.out (by kernel_rfl)) (by decide) (fun K hK => ?_)
                    refine goes_ Try.func35 (by kernel_rfl) rfl #[.string ((rd_T56 ((rd_T52 l0 x13_1).f2) x49_3).f1)] (by rfl) rfl rfl (by (try simp only [List.map_toArray, List.map_cons, List.map_nil]); first | done | rfl | (simp only [List.length_drop, List.length_take]; rfl)) ?_
                    with_reducible refine (impl_AddressOk.calls k3 ((rd_T56 ((rd_T52 l0 x13_1).f2) x49_3).f1) true _ A41.out).mono ?_
                    rintro e w' ⟨rfl, ⟨nd, rfl⟩⟩
                    refine ⟨_, rfl, ?_⟩
                    refine hK.out _ _ ⟨(blk_cell BK208.out 0).trans rfl, (blk_cell BK208.out 1).trans rfl⟩ (fun hHeld => ?_)
                    clear hK K
                    refine norm_ (a' := ?_) ?_ ?_
                    rotate_left
                    ·show Act.put _ (some 65) _ = _
                     simp only [Act.put, sT, s0, sS, i64_w, i32_w]
                     rfl
                    refine qA 12 66 (tf 30 8191) ?_
                    refine qA 13 67 (tf 30 16383) ?_
                    refine qA 14 68 (tf 30 32767) ?_
                    refine qA 15 69 (tf 30 65535) ?_
                    refine qA 16 70 (tf 30 131071) ?_
                    refine qA 17 71 (tf 30 262143) ?_
                    refine qU 18 72 (tf 30 524287) ?_
                    refine qU 19 73 (tf 30 1048575) ?_
                    refine qU 20 74 (tf 30 2097151) ?_
                    refine qU 21 75 (tf 30 4194303) ?_
                    refine qU 22 76 (tf 30 8388607) ?_
                    refine qU 23 77 (tf 30 16777215) ?_
                    refine qU 24 78 (tf 30 33554431) ?_
                    refine qU 25 79 (tf 30 67108863) ?_
                    refine qU 26 80 (tf 30 134217727) ?_
                    refine qU 27 81 (tf 30 268435455) ?_
                    refine qA 28 82 (tf 30 536870911) ?_
                    refine qA 29 83 (tf 30 1073741823) ?_
                    refine done_ (done_of HT_.out (by kernel_rfl)) ?_
                    try go_wp2
                    go_roundg k3
                    case measure => have := HK1.out; have := HJ5.out; have := HK3.out; omega
                    case rel => exact ⟨(true), (wrap64 (x49_3 + 1)), (by first | rfl | (simp; done) | (simp [*]; done)), (by first | rfl | (simp; done) | (simp [*]; done)), H', ⟨by have := HK1.out; have := HJ5.out; have := HK3.out; omega⟩, ⟨by (with_reducible repeat (first | refine blk_drewN ?_ _ | refine blk_drew ?_ | refine blk_alloc ?_ _)); exact BK204.out⟩, ⟨by repeat (first | (with_reducible first | exact HB.out | apply below_alloc | apply pw_below_drewN | apply below_drew1 | refine below_set ?_ GE204.out | refine below_set ?_ GE208.out) | exact HB.out)⟩⟩
                   ·replace c66 := Bool.eq_false_iff.mpr c66
                    subst c66
                    have H1 : (impl_ProfilesOk.l1 k3 l0 (((rd_T56 ((rd_T52 l0 x13_1).f2) x49_3).f0) == ((rd_T52 l0 x13_1).f1)) l0 (l0.length : Int) x13_1 ((rd_T52 l0 x13_1).f2) (((rd_T52 l0 x13_1).f2).length : Int) (wrap64 (x49_3 + 1)) ((rd_T52 l0 x13_1).f0) ((rd_T52 l0 x13_1).f1) ((rd_T52 l0 x13_1).f2)) = some r := by rw [if_neg (show ¬ (false = true) by decide)] at H; exact H
                    clear H
                    have H := H1
                    clear H1
                    have H' := Aside0.mk H
                    clear H
                    have p207 : 0 ≤ (x49_3 : Int) := of_decide_eq_true (by first | (with_reducible assumption) | assumption)
                    have q207 : x49_3 < (((rd_T52 l0 x13_1).f2).length : Int) := of_decide_eq_true (by first | (with_reducible assumption) | assumption)
                    obtain ⟨ad207, e207, hx207_0, hx207_1⟩ := at_T56 HR203_2.out x49_3 p207 q207
                    cases e207
                    try (replace hx207_0 := (HB.out.cell (World.block_lt_of_cell? w _ hx207_0)).trans hx207_0)
                    try (replace hx207_1 := (HB.out.cell (World.block_lt_of_cell? w _ hx207_1)).trans hx207_1)
                    replace p207 := eq_true p207
                    replace q207 := eq_true q207
                    try go_wp2_with (first | ((with_reducible refine gate_dst (N := 7) rfl ?_); (try (refine gate_guard (by rfl) ?_; dsimp only)); refine box_event ?hg (N := 7) ?hd (cs := #[.int .i64 0, .string (⟨#[]⟩ : ByteArray)]) (t := 56) ?hr ?_; (case hd => rfl); (case hg => rfl); (case hr => first | (go_simp; done) | (go_simp; rfl)); intro gb208 hg w72 hbox hb; have n0_ := Aside0.mk (blk_below (g := gb204) (qK BK204.out) hb); have n1_ := Aside0.mk (below_step (qG GE204.out) hb); have n2_ := Aside0.mk (hbox); have n3_ := Aside0.mk ((by rw [hg]; exact (below_size (qG GE204.out)) : w.heap.size ≤ gb208)); have n4_ := Aside0.mk ((by rw [hg]; exact (below_size (qG GE204.out)) : w.heap.size ≤ gb208)); have n5_ := Aside0.mk ((by rw [hg]; exact Nat.ne_of_lt (blk_lt (g := gb204) (qK BK204.out)) : gb204 ≠ gb208)); have n6_ := Aside0.mk ((by rw [hg]; exact Nat.ne_of_gt (blk_lt (g := gb204) (qK BK204.out)) : gb208 ≠ gb204)); clear BK204; clear HB; have BK204 := n0_; have HB := n1_; have BK208 := n2_; have GW208 := n3_; have GE208 := n4_; have NB204_208 := n5_; have NB208_204 := n6_; clear n0_ n1_ n2_ n3_ n4_ n5_ n6_; clear hb hbox hg; have hnb73 := NB208_204.out; have hnc73 := NB204_208.out; have hcz74_0 : w72.cell? ⟨gb208, 0, none⟩ = some (.int .i64 0) := (blk_cell BK208.out 0).trans rfl; have hcz74_1 : w72.cell? ⟨gb208, 1, none⟩ = some (.string (⟨#[]⟩ : ByteArray)) := (blk_cell BK208.out 1).trans rfl; have hfz74_0 := blk_frozen BK208.out 0; have hfz74_1 := blk_frozen BK208.out 1))
                    have n0_ : Aside0 (((w72.setCell ⟨gb208, 0, none⟩ (.int .i64 ((rd_T56 ((rd_T52 l0 x13_1).f2) x49_3).f0))).setCell ⟨gb208, 1, none⟩ (.string ((rd_T56 ((rd_T52 l0 x13_1).f2) x49_3).f1))).heap[gb204]? = some (.cells #[.string ((rd_T52 l0 x13_1).f0), .int .i64 ((rd_T52 l0 x13_1).f1), .slice (some ad207) ((rd_T52 l0 x13_1).f2).length c203_2] 52 (0, 0))) := ⟨by (with_reducible repeat (first | refine blk_drewN ?_ _ | refine blk_drew ?_ | refine blk_alloc ?_ _)); refine blk_far ?_ NB204_208.out _; (with_reducible repeat (first | refine blk_drewN ?_ _ | refine blk_drew ?_ | refine blk_alloc ?_ _)); refine blk_far ?_ NB204_208.out _; (with_reducible repeat (first | refine blk_drewN ?_ _ | refine blk_drew ?_ | refine blk_alloc ?_ _)); exact BK204.out⟩
                    have n1_ : Aside0 (((w72.setCell ⟨gb208, 0, none⟩ (.int .i64 ((rd_T56 ((rd_T52 l0 x13_1).f2) x49_3).f0))).setCell ⟨gb208, 1, none⟩ (.string ((rd_T56 ((rd_T52 l0 x13_1).f2) x49_3).f1))).heap[gb208]? = some (.cells #[.int .i64 ((rd_T56 ((rd_T52 l0 x13_1).f2) x49_3).f0), .string ((rd_T56 ((rd_T52 l0 x13_1).f2) x49_3).f1)] 56 (0, 0))) := ⟨by (with_reducible repeat (first | refine blk_drewN ?_ _ | refine blk_drew ?_ | refine blk_alloc ?_ _)); refine blk_put (cs := #[.int .i64 ((rd_T56 ((rd_T52 l0 x13_1).f2) x49_3).f0), .string (⟨#[]⟩ : ByteArray)]) ?_ 1 _ rfl; (with_reducible repeat (first | refine blk_drewN ?_ _ | refine blk_drew ?_ | refine blk_alloc ?_ _)); refine blk_put (cs := #[.int .i64 0, .string (⟨#[]⟩ : ByteArray)]) ?_ 0 _ rfl; (with_reducible repeat (first | refine blk_drewN ?_ _ | refine blk_drew ?_ | refine blk_alloc ?_ _)); exact BK208.out⟩
                    have n2_ : Aside0 (Below w.heap.size w ((w72.setCell ⟨gb208, 0, none⟩ (.int .i64 ((rd_T56 ((rd_T52 l0 x13_1).f2) x49_3).f0))).setCell ⟨gb208, 1, none⟩ (.string ((rd_T56 ((rd_T52 l0 x13_1).f2) x49_3).f1)))) := ⟨by repeat (first | (with_reducible first | exact HB.out | apply below_alloc | apply pw_below_drewN | apply below_drew1 | refine below_set ?_ GE204.out | refine below_set ?_ GE208.out) | exact HB.out)⟩
                    (try clear BK204)
                    (try clear BK208)
                    (try clear HB)
                    generalize ((w72.setCell ⟨gb208, 0, none⟩ (.int .i64 ((rd_T56 ((rd_T52 l0 x13_1).f2) x49_3).f0))).setCell ⟨gb208, 1, none⟩ (.string ((rd_T56 ((rd_T52 l0 x13_1).f2) x49_3).f1))) = w75 at n0_ n1_ n2_ ⊢
                    have BK204 := n0_
                    have BK208 := n1_
                    have HB := n2_
                    clear n0_ n1_ n2_
                    have n0_ := Aside0.mk (blk_drew BK204.out)
                    have n1_ := Aside0.mk (blk_drew BK208.out)
                    have n2_ := Aside0.mk (below_drew1 HB.out)
                    clear BK204
                    clear BK208
                    clear HB
                    have BK204 := n0_
                    have BK208 := n1_
                    have HB := n2_
                    clear n0_ n1_ n2_
                    refine start_ (n := 30) (S := fun w' => w'.cell? ⟨gb208, 0, none⟩ = some (.int .i64 ((rd_T56 ((rd_T52 l0 x13_1).f2) x49_3).f0)) ∧ w'.cell? ⟨gb208, 1, none⟩ = some (.string ((rd_T56 ((rd_T52 l0 x13_1).f2) x49_3).f1))) (ds := []) (tf 30 0) (by kernel_rfl) rfl rfl ⟨(blk_cell BK208.out 0).trans rfl, (blk_cell BK208.out 1).trans rfl⟩ (fun hHeld => ?_); refine with_tabW impl_ProfilesOk.tab12 impl_ProfilesOk.bits12 (fun HT_ HW_ => ?_)
                    generalize w75.drew = w76 at BK204 BK208 HB hHeld ⊢
                    refine qA 0 54 (tf 30 1) ?_
                    refine qT 1 55 (tf 30 3) ?_
                    refine qA 2 56 (tf 30 7) ?_
                    refine qA 3 57 (tf 30 15) ?_
                    refine qA 4 58 (tf 30 31) ?_
                    refine qT 5 59 (tf 30 63) ?_
                    refine qA 6 60 (tf 30 127) ?_
                    refine qA 7 61 (tf 30 255) ?_
                    refine qA 8 62 (tf 30 511) ?_
                    refine qA 9 63 (tf 30 1023) ?_
                    refine qT 10 64 (tf 30 2047) ?_
                    refine one_ (i := 11) (N := some 65) (tf 30 4095) rfl rfl (one_of HT_.out (by kernel_rfl)) (by decide) (fun K hK => ?_)
                    refine goes_ Try.func35 (by kernel_rfl) rfl #[.string ((rd_T56 ((rd_T52 l0 x13_1).f2) x49_3).f1)] (by rfl) rfl rfl (by (try simp only [List.map_toArray, List.map_cons, List.map_nil]); first | done | rfl | (simp only [List.length_drop, List.length_take]; rfl)) ?_
                    with_reducible refine (impl_AddressOk.calls k3 ((rd_T56 ((rd_T52 l0 x13_1).f2) x49_3).f1) true _ A41.out).mono ?_
                    rintro e w' ⟨rfl, ⟨nd, rfl⟩⟩
                    refine ⟨_, rfl, ?_⟩
                    refine hK.out _ _ ⟨(blk_cell BK208.out 0).trans rfl, (blk_cell BK208.out 1).trans rfl⟩ (fun hHeld => ?_)
                    clear hK K
                    refine norm_ (a' := ?_) ?_ ?_
                    rotate_left
                    ·show Act.put _ (some 65) _ = _
                     simp only [Act.put, sT, s0, sS, i64_w, i32_w]
                     rfl
                    refine qA 12 66 (tf 30 8191) ?_
                    refine qA 13 67 (tf 30 16383) ?_
                    refine qA 14 68 (tf 30 32767) ?_
                    refine qA 15 69 (tf 30 65535) ?_
                    refine qA 16 70 (tf 30 131071) ?_
                    refine qA 17 71 (tf 30 262143) ?_
                    refine qU 18 72 (tf 30 524287) ?_
                    refine qU 19 73 (tf 30 1048575) ?_
                    refine qU 20 74 (tf 30 2097151) ?_
                    refine qU 21 75 (tf 30 4194303) ?_
                    refine qU 22 76 (tf 30 8388607) ?_
                    refine qU 23 77 (tf 30 16777215) ?_
                    refine qU 24 78 (tf 30 33554431) ?_
                    refine qU 25 79 (tf 30 67108863) ?_
                    refine qU 26 80 (tf 30 134217727) ?_
                    refine qU 27 81 (tf 30 268435455) ?_
                    refine qA 28 82 (tf 30 536870911) ?_
                    refine qA 29 83 (tf 30 1073741823) ?_
                    refine done_ (done_of HT_.out (by kernel_rfl)) ?_
                    have hcz77_0 : w76.cell? ⟨gb208, 0, none⟩ = some (.int .i64 ((rd_T56 ((rd_T52 l0 x13_1).f2) x49_3).f0)) := (blk_cell BK208.out 0).trans rfl
                    have hcz77_1 : w76.cell? ⟨gb208, 1, none⟩ = some (.string ((rd_T56 ((rd_T52 l0 x13_1).f2) x49_3).f1)) := (blk_cell BK208.out 1).trans rfl
                    have hfz77_0 := blk_frozen BK208.out 0
                    have hfz77_1 := blk_frozen BK208.out 1
                    have hcz78_0 : w76.cell? ⟨gb204, 0, none⟩ = some (.string ((rd_T52 l0 x13_1).f0)) := (blk_cell BK204.out 0).trans rfl
                    have hcz78_1 : w76.cell? ⟨gb204, 1, none⟩ = some (.int .i64 ((rd_T52 l0 x13_1).f1)) := (blk_cell BK204.out 1).trans rfl
                    have hcz78_2 : w76.cell? ⟨gb204, 2, none⟩ = some (.slice (some ad207) ((rd_T52 l0 x13_1).f2).length c203_2) := (blk_cell BK204.out 2).trans rfl
                    have hfz78_0 := blk_frozen BK204.out 0
                    have hfz78_1 := blk_frozen BK204.out 1
                    have hfz78_2 := blk_frozen BK204.out 2
                    try go_wp2
                    go_roundg k3
                    case measure => have := HK1.out; have := HJ5.out; have := HK3.out; omega
                    case rel => exact ⟨((((rd_T56 ((rd_T52 l0 x13_1).f2) x49_3).f0) == ((rd_T52 l0 x13_1).f1))), (wrap64 (x49_3 + 1)), (by first | rfl | (simp; done) | (simp [*]; done)), (by first | rfl | (simp; done) | (simp [*]; done)), H', ⟨by have := HK1.out; have := HJ5.out; have := HK3.out; omega⟩, ⟨by (with_reducible repeat (first | refine blk_drewN ?_ _ | refine blk_drew ?_ | refine blk_alloc ?_ _)); exact BK204.out⟩, ⟨by repeat (first | (with_reducible first | exact HB.out | apply below_alloc | apply pw_below_drewN | apply below_drew1 | refine below_set ?_ GE204.out | refine below_set ?_ GE208.out) | exact HB.out)⟩⟩
                 ·replace c42 := Bool.eq_false_iff.mpr c42
                  subst c42
                  have H1 : (some false) = some r := by rw [if_neg (show ¬ (false = true) by decide)] at H; exact H
                  clear H
                  have H := H1
                  clear H1
                  obtain rfl := Option.some.inj H
                  have p207 : 0 ≤ (x49_3 : Int) := of_decide_eq_true (by first | (with_reducible assumption) | assumption)
                  have q207 : x49_3 < (((rd_T52 l0 x13_1).f2).length : Int) := of_decide_eq_true (by first | (with_reducible assumption) | assumption)
                  obtain ⟨ad207, e207, hx207_0, hx207_1⟩ := at_T56 HR203_2.out x49_3 p207 q207
                  cases e207
                  try (replace hx207_0 := (HB.out.cell (World.block_lt_of_cell? w _ hx207_0)).trans hx207_0)
                  try (replace hx207_1 := (HB.out.cell (World.block_lt_of_cell? w _ hx207_1)).trans hx207_1)
                  replace p207 := eq_true p207
                  replace q207 := eq_true q207
                  try go_wp2_with (first | ((with_reducible refine gate_dst (N := 7) rfl ?_); (try (refine gate_guard (by rfl) ?_; dsimp only)); refine box_event ?hg (N := 7) ?hd (cs := #[.int .i64 0, .string (⟨#[]⟩ : ByteArray)]) (t := 56) ?hr ?_; (case hd => rfl); (case hg => rfl); (case hr => first | (go_simp; done) | (go_simp; rfl)); intro gb208 hg w79 hbox hb; have n0_ := Aside0.mk (blk_below (g := gb204) (qK BK204.out) hb); have n1_ := Aside0.mk (below_step (qG GE204.out) hb); have n2_ := Aside0.mk (hbox); have n3_ := Aside0.mk ((by rw [hg]; exact (below_size (qG GE204.out)) : w.heap.size ≤ gb208)); have n4_ := Aside0.mk ((by rw [hg]; exact (below_size (qG GE204.out)) : w.heap.size ≤ gb208)); have n5_ := Aside0.mk ((by rw [hg]; exact Nat.ne_of_lt (blk_lt (g := gb204) (qK BK204.out)) : gb204 ≠ gb208)); have n6_ := Aside0.mk ((by rw [hg]; exact Nat.ne_of_gt (blk_lt (g := gb204) (qK BK204.out)) : gb208 ≠ gb204)); clear BK204; clear HB; have BK204 := n0_; have HB := n1_; have BK208 := n2_; have GW208 := n3_; have GE208 := n4_; have NB204_208 := n5_; have NB208_204 := n6_; clear n0_ n1_ n2_ n3_ n4_ n5_ n6_; clear hb hbox hg; have hnb80 := NB208_204.out; have hnc80 := NB204_208.out; have hcz81_0 : w79.cell? ⟨gb208, 0, none⟩ = some (.int .i64 0) := (blk_cell BK208.out 0).trans rfl; have hcz81_1 : w79.cell? ⟨gb208, 1, none⟩ = some (.string (⟨#[]⟩ : ByteArray)) := (blk_cell BK208.out 1).trans rfl; have hfz81_0 := blk_frozen BK208.out 0; have hfz81_1 := blk_frozen BK208.out 1))
                  have n0_ : Aside0 (((w79.setCell ⟨gb208, 0, none⟩ (.int .i64 ((rd_T56 ((rd_T52 l0 x13_1).f2) x49_3).f0))).setCell ⟨gb208, 1, none⟩ (.string ((rd_T56 ((rd_T52 l0 x13_1).f2) x49_3).f1))).heap[gb204]? = some (.cells #[.string ((rd_T52 l0 x13_1).f0), .int .i64 ((rd_T52 l0 x13_1).f1), .slice (some ad207) ((rd_T52 l0 x13_1).f2).length c203_2] 52 (0, 0))) := ⟨by (with_reducible repeat (first | refine blk_drewN ?_ _ | refine blk_drew ?_ | refine blk_alloc ?_ _)); refine blk_far ?_ NB204_208.out _; (with_reducible repeat (first | refine blk_drewN ?_ _ | refine blk_drew ?_ | refine blk_alloc ?_ _)); refine blk_far ?_ NB204_208.out _; (with_reducible repeat (first | refine blk_drewN ?_ _ | refine blk_drew ?_ | refine blk_alloc ?_ _)); exact BK204.out⟩
                  have n1_ : Aside0 (((w79.setCell ⟨gb208, 0, none⟩ (.int .i64 ((rd_T56 ((rd_T52 l0 x13_1).f2) x49_3).f0))).setCell ⟨gb208, 1, none⟩ (.string ((rd_T56 ((rd_T52 l0 x13_1).f2) x49_3).f1))).heap[gb208]? = some (.cells #[.int .i64 ((rd_T56 ((rd_T52 l0 x13_1).f2) x49_3).f0), .string ((rd_T56 ((rd_T52 l0 x13_1).f2) x49_3).f1)] 56 (0, 0))) := ⟨by (with_reducible repeat (first | refine blk_drewN ?_ _ | refine blk_drew ?_ | refine blk_alloc ?_ _)); refine blk_put (cs := #[.int .i64 ((rd_T56 ((rd_T52 l0 x13_1).f2) x49_3).f0), .string (⟨#[]⟩ : ByteArray)]) ?_ 1 _ rfl; (with_reducible repeat (first | refine blk_drewN ?_ _ | refine blk_drew ?_ | refine blk_alloc ?_ _)); refine blk_put (cs := #[.int .i64 0, .string (⟨#[]⟩ : ByteArray)]) ?_ 0 _ rfl; (with_reducible repeat (first | refine blk_drewN ?_ _ | refine blk_drew ?_ | refine blk_alloc ?_ _)); exact BK208.out⟩
                  have n2_ : Aside0 (Below w.heap.size w ((w79.setCell ⟨gb208, 0, none⟩ (.int .i64 ((rd_T56 ((rd_T52 l0 x13_1).f2) x49_3).f0))).setCell ⟨gb208, 1, none⟩ (.string ((rd_T56 ((rd_T52 l0 x13_1).f2) x49_3).f1)))) := ⟨by repeat (first | (with_reducible first | exact HB.out | apply below_alloc | apply pw_below_drewN | apply below_drew1 | refine below_set ?_ GE204.out | refine below_set ?_ GE208.out) | exact HB.out)⟩
                  (try clear BK204)
                  (try clear BK208)
                  (try clear HB)
                  generalize ((w79.setCell ⟨gb208, 0, none⟩ (.int .i64 ((rd_T56 ((rd_T52 l0 x13_1).f2) x49_3).f0))).setCell ⟨gb208, 1, none⟩ (.string ((rd_T56 ((rd_T52 l0 x13_1).f2) x49_3).f1))) = w82 at n0_ n1_ n2_ ⊢
                  have BK204 := n0_
                  have BK208 := n1_
                  have HB := n2_
                  clear n0_ n1_ n2_
                  have n0_ := Aside0.mk (blk_drew BK204.out)
                  have n1_ := Aside0.mk (blk_drew BK208.out)
                  have n2_ := Aside0.mk (below_drew1 HB.out)
                  clear BK204
                  clear BK208
                  clear HB
                  have BK204 := n0_
                  have BK208 := n1_
                  have HB := n2_
                  clear n0_ n1_ n2_
                  refine start_ (n := 30) (S := fun w' => w'.cell? ⟨gb208, 0, none⟩ = some (.int .i64 ((rd_T56 ((rd_T52 l0 x13_1).f2) x49_3).f0)) ∧ w'.cell? ⟨gb208, 1, none⟩ = some (.string ((rd_T56 ((rd_T52 l0 x13_1).f2) x49_3).f1))) (ds := []) (tf 30 0) (by kernel_rfl) rfl rfl ⟨(blk_cell BK208.out 0).trans rfl, (blk_cell BK208.out 1).trans rfl⟩ (fun hHeld => ?_); refine with_tabW impl_ProfilesOk.tab12 impl_ProfilesOk.bits12 (fun HT_ HW_ => ?_)
                  generalize w82.drew = w83 at BK204 BK208 HB hHeld ⊢
                  refine qA 0 54 (tf 30 1) ?_
                  refine qT 1 55 (tf 30 3) ?_
                  refine qA 2 56 (tf 30 7) ?_
                  refine qA 3 57 (tf 30 15) ?_
                  refine qA 4 58 (tf 30 31) ?_
                  refine qT 5 59 (tf 30 63) ?_
                  refine qA 6 60 (tf 30 127) ?_
                  refine qA 7 61 (tf 30 255) ?_
                  refine qA 8 62 (tf 30 511) ?_
                  refine qA 9 63 (tf 30 1023) ?_
                  refine qT 10 64 (tf 30 2047) ?_
                  refine one_ (i := 11) (N := some 65) (tf 30 4095) rfl rfl (one_of HT_.out (by kernel_rfl)) (by decide) (fun K hK => ?_)
                  refine goes_ Try.func35 (by kernel_rfl) rfl #[.string ((rd_T56 ((rd_T52 l0 x13_1).f2) x49_3).f1)] (by rfl) rfl rfl (by (try simp only [List.map_toArray, List.map_cons, List.map_nil]); first | done | rfl | (simp only [List.length_drop, List.length_take]; rfl)) ?_
                  with_reducible refine (impl_AddressOk.calls k3 ((rd_T56 ((rd_T52 l0 x13_1).f2) x49_3).f1) false _ A41.out).mono ?_
                  rintro e w' ⟨rfl, ⟨nd, rfl⟩⟩
                  refine ⟨_, rfl, ?_⟩
                  refine hK.out _ _ ⟨(blk_cell BK208.out 0).trans rfl, (blk_cell BK208.out 1).trans rfl⟩ (fun hHeld => ?_)
                  clear hK K
                  refine norm_ (a' := ?_) ?_ ?_
                  rotate_left
                  ·show Act.put _ (some 65) _ = _
                   simp only [Act.put, sT, s0, sS, i64_w, i32_w]
                   rfl
                  refine qA 12 66 (tf 30 8191) ?_
                  refine qA 13 67 (tf 30 16383) ?_
                  refine qA 14 68 (tf 30 32767) ?_
                  refine qU 15 69 (tf 30 65535) ?_
                  refine qU 16 70 (tf 30 131071) ?_
                  refine qU 17 71 (tf 30 262143) ?_
                  refine qU 18 72 (tf 30 524287) ?_
                  refine qU 19 73 (tf 30 1048575) ?_
                  refine qU 20 74 (tf 30 2097151) ?_
                  refine qU 21 75 (tf 30 4194303) ?_
                  refine qU 22 76 (tf 30 8388607) ?_
                  refine qU 23 77 (tf 30 16777215) ?_
                  refine qU 24 78 (tf 30 33554431) ?_
                  refine qU 25 79 (tf 30 67108863) ?_
                  refine qU 26 80 (tf 30 134217727) ?_
                  refine qU 27 81 (tf 30 268435455) ?_
                  refine qU 28 82 (tf 30 536870911) ?_
                  refine qA 29 83 (tf 30 1073741823) ?_
                  refine done_ (done_of HT_.out (by kernel_rfl)) ?_
                  try go_wp2
                  go_ret
                  exact ⟨by first | rfl | (simp [errW_none, errW_some] <;> rfl) | (simp [*, errW_none, errW_some] <;> rfl), by repeat (first | (with_reducible first | exact HB.out | apply below_alloc | apply pw_below_drewN | apply below_drew1 | refine below_set ?_ GE204.out | refine below_set ?_ GE208.out) | exact HB.out)⟩
              ·rw [if_neg c28] at H
               exact absurd H (by simp)
             ·rw [if_neg c27] at H
              exact absurd H (by simp)
            ·rw [if_neg c26] at H
             have c26b0 : decide (x49_3 < (((rd_T52 l0 x13_1).f2).length : Int)) = false := decide_eq_false c26
             clear c26
             by_cases c84 : x5_3 = true
             ·subst c84
              have H1 : (impl_ProfilesOk.l0 k3 l0 l0 (l0.length : Int) (wrap64 (x13_1 + 1))) = some r := by rw [if_pos rfl] at H; exact H
              clear H
              have H := H1
              clear H1
              have H' := Aside0.mk H
              clear H
              go_wp2
              go_roundg k3
              case measure => have := HK1.out; have := HJ5.out; have := HK3.out; omega
              case rel => exact ⟨(wrap64 (x13_1 + 1)), (by first | rfl | (simp; done) | (simp [*]; done)), H', ⟨by have := HK1.out; have := HJ5.out; have := HK3.out; omega⟩, ⟨by repeat (first | (with_reducible first | exact HB.out | apply below_alloc | apply pw_below_drewN | apply below_drew1 | refine below_set ?_ GE204.out) | exact HB.out)⟩⟩
             ·replace c84 := Bool.eq_false_iff.mpr c84
              subst c84
              have H1 : (some false) = some r := by rw [if_neg (show ¬ (false = true) by decide)] at H; exact H
              clear H
              have H := H1
              clear H1
              obtain rfl := Option.some.inj H
              go_wp2
              go_ret
              exact ⟨by first | rfl | (simp [errW_none, errW_some] <;> rfl) | (simp [*, errW_none, errW_some] <;> rfl), by repeat (first | (with_reducible first | exact HB.out | apply below_alloc | apply pw_below_drewN | apply below_drew1 | refine below_set ?_ GE204.out) | exact HB.out)⟩
      ·rw [if_neg c5] at H
       exact absurd H (by simp)
     ·rw [if_neg c4] at H
      exact absurd H (by simp)
    ·rw [if_neg c3] at H
     have c3b0 : decide (x13_1 < (l0.length : Int)) = false := decide_eq_false c3
     clear c3
     obtain rfl := Option.some.inj H
     go_wp2
     go_ret
     exact ⟨by first | rfl | (simp [errW_none, errW_some] <;> rfl) | (simp [*, errW_none, errW_some] <;> rfl), by repeat (first | (with_reducible first | exact HB.out | apply below_alloc | apply pw_below_drewN | apply below_drew1) | exact HB.out)⟩

end Go.Proofs.Ytbgnjnlecpdfaaa.PFnExactSwitch
