-- Laid by a program of this session: a turned copy of the kit's print, with contracts by hand beside.
import Derived.Test.YtbgnjnlecpdfaaaPFnExactCurrentx0
import Derived.Test.YtbgnjnlecpdfaaaPFnExactCurrentx3
import Derived.Test.YtbgnjnlecpdfaaaPFnExactCurrentx5
namespace Go.Proofs.Ytbgnjnlecpdfaaa.PFnExactCurrent
open Go.RowKit Go.Proofs.YtbgnjnlecpdfaaaW.PrintWords Go.Proofs.YtbgnjnlecpdfaaaW.PrintLast Go.Proofs.YtbgnjnlecpdfaaaW.PrintMore
attribute [local go_sem] max2_int min2_int max_two min_two max_three min_three max_four min_four   -- for this text's walks alone
set_option linter.unusedVariables false
set_option linter.unusedSimpArgs false

/-! ### spec_l13Find: function 37 -/
def spec_l13Find.l0 : Nat → List (S52) → ByteArray → Int → Option (Int)
 | 0, _, _, _ => none
 | k + 1, x0, x1, x5 => if x5 < (x0.length : Int) then (if 0 ≤ x5 then (if ((rd_T52 x0 x5).f0).toList = x1.toList then (some x5) else (spec_l13Find.l0 k x0 x1 (wrap64 (x5 + 1)))) else (none)) else (some (-1))
def spec_l13Find.f (k : Nat) (l0 : List (S52)) (a1 : ByteArray) : Option (Int) := spec_l13Find.l0 k l0 a1 0
theorem spec_l13Find.mono_l : ∀ k, (∀ y0 y1 y2, LeO (spec_l13Find.l0 k y0 y1 y2) (spec_l13Find.l0 (k + 1) y0 y1 y2))
 | 0 => fun _ _ _ r h => by simp [spec_l13Find.l0] at h
 | k + 1 => by
  have ih0 := spec_l13Find.mono_l k
  ·intro y0 y1 y2
   unfold spec_l13Find.l0
   repeat' first
   | (with_reducible exact ih0 _ _ _)
   | (with_reducible exact LeO.refl _)
   | (with_reducible exact LeO.none _)
   | (with_reducible refine LeO.ite ?_ ?_)
   | (with_reducible refine LeO.bind ?_ (fun _ => ?_))
   | exact ih0 _ _ _
   | exact LeO.none _
   | refine LeO.ite ?_ ?_
   | refine LeO.bind ?_ (fun _ => ?_)
theorem spec_l13Find.mono : ∀ a0 a1 k, LeO (spec_l13Find.f k a0 a1) (spec_l13Find.f (k + 1) a0 a1) := by
 intro a0 a1 k
 have ih0 := spec_l13Find.mono_l k
 unfold spec_l13Find.f
 repeat' first
   | (with_reducible exact ih0 _ _ _)
   | (with_reducible exact LeO.refl _)
   | (with_reducible exact LeO.none _)
   | (with_reducible refine LeO.ite ?_ ?_)
   | (with_reducible refine LeO.bind ?_ (fun _ => ?_))
   | exact ih0 _ _ _
   | exact LeO.none _
   | refine LeO.ite ?_ ?_
   | refine LeO.bind ?_ (fun _ => ?_)
set_option maxHeartbeats 8000000 in
set_option maxRecDepth 100000 in
theorem spec_l13Find.calls (k : Nat) (A0 : Option Addr) (c0 : Nat) (l0 : List (S52)) (a1 : ByteArray) (r : Int) (w : World) (hr0 : Kd.C k52 w A0 l0.length l0) (hc0 : l0.length ≤ c0) (h : spec_l13Find.f k l0 a1 = some r) :
  Calls Try.prog 37 #[.slice A0 l0.length c0, .string a1] w fun e w' => e = .returned (.int .i64 r) ∧ Drawn0 w w' := by
 have HR0 := Aside0.mk hr0
 have HC0 := Aside0.mk hc0
 clear hr0 hc0
 have H : (spec_l13Find.l0 k l0 a1 0) = some r := h
 clear h
 have H' := Aside0.mk H
 clear H
 go_enter Try.func37, Try.ntmps37
 go_wp2
 go_loopg [5] k (fun kq v5 w' => ∃ (x5_1 : Int), v5 = .int .i64 x5_1 ∧ Aside0 (spec_l13Find.l0 kq l0 a1 x5_1 = some r) ∧ Aside0 (kq ≤ k) ∧ Drawn0 w w')
 case atStart => exact ⟨(0), (by first | rfl | (simp; done) | (simp [*]; done)), H', ⟨Nat.le_refl _⟩, by repeat (first | exact Drawn0.refl _ | apply Drawn0.step)⟩
 case round =>
  clear H'
  try clear p2
  obtain ⟨x5_1, rfl, HA, HK1, ⟨m1, rfl⟩⟩ := hrel
  cases gk with
  | zero => exact absurd HA.out (by simp [spec_l13Find.l0])
  | succ k1 =>
   have H := HA.out
   clear HA
   simp only [spec_l13Find.l0] at H
   by_cases c3 : x5_1 < (l0.length : Int)
   ·rw [if_pos c3] at H
    have c3b0 : decide (x5_1 < (l0.length : Int)) = true := decide_eq_true c3
    clear c3
    by_cases c4 : 0 ≤ x5_1
    ·rw [if_pos c4] at H
     have c4b0 : decide (0 ≤ x5_1) = true := decide_eq_true c4
     clear c4
     by_cases c5 : ((rd_T52 l0 x5_1).f0).toList = a1.toList
     ·rw [if_pos c5] at H
      have c5b0 : (((rd_T52 l0 x5_1).f0).toList == a1.toList) = true := beq_iff_eq.mpr c5
      have c5b1 : (((rd_T52 l0 x5_1).f0).toList != a1.toList) = false := bne_eq_false_iff_eq.mpr c5
      clear c5
      obtain rfl := Option.some.inj H
      have p164 : 0 ≤ (x5_1 : Int) := of_decide_eq_true (by first | (with_reducible assumption) | assumption)
      have q164 : x5_1 < (l0.length : Int) := of_decide_eq_true (by first | (with_reducible assumption) | assumption)
      obtain ⟨ad164, A164_2, c164_2, e164, hx164_0, hx164_1, hx164_2, hl164_2, hi164_2⟩ := at_T52 HR0.out x5_1 p164 q164
      cases e164
      have HR164_2 := Aside0.mk hi164_2
      have HC164_2 := Aside0.mk hl164_2
      clear hi164_2 hl164_2
      replace p164 := eq_true p164
      replace q164 := eq_true q164
      go_wp2
      go_ret
      exact ⟨by first | rfl | (simp; done) | (simp [*]; done), by repeat (first | exact Drawn0.refl _ | apply Drawn0.step)⟩
     ·rw [if_neg c5] at H
      have c5b0 : (((rd_T52 l0 x5_1).f0).toList == a1.toList) = false := beq_eq_false_iff_ne.mpr c5
      have c5b1 : (((rd_T52 l0 x5_1).f0).toList != a1.toList) = true := bne_iff_ne.mpr c5
      have H' := Aside0.mk H
      clear H
      have p164 : 0 ≤ (x5_1 : Int) := of_decide_eq_true (by first | (with_reducible assumption) | assumption)
      have q164 : x5_1 < (l0.length : Int) := of_decide_eq_true (by first | (with_reducible assumption) | assumption)
      obtain ⟨ad164, A164_2, c164_2, e164, hx164_0, hx164_1, hx164_2, hl164_2, hi164_2⟩ := at_T52 HR0.out x5_1 p164 q164
      cases e164
      have HR164_2 := Aside0.mk hi164_2
      have HC164_2 := Aside0.mk hl164_2
      clear hi164_2 hl164_2
      replace p164 := eq_true p164
      replace q164 := eq_true q164
      go_wp2
      go_roundg k1
      case measure => have := HK1.out; omega
      case rel => exact ⟨(wrap64 (x5_1 + 1)), (by first | rfl | (simp; done) | (simp [*]; done)), H', ⟨by have := HK1.out; omega⟩, by repeat (first | exact Drawn0.refl _ | apply Drawn0.step)⟩
    ·rw [if_neg c4] at H
     exact absurd H (by simp)
   ·rw [if_neg c3] at H
    have c3b0 : decide (x5_1 < (l0.length : Int)) = false := decide_eq_false c3
    clear c3
    obtain rfl := Option.some.inj H
    go_wp2
    go_ret
    exact ⟨by first | rfl | (simp; done) | (simp [*]; done), by repeat (first | exact Drawn0.refl _ | apply Drawn0.step)⟩

/-! ### spec_l13Current: function 38 -/
def spec_l13Current.f (k : Nat) (a0_0 : ByteArray) (a0_1 : Int) (l0_2 : List (S56)) : Option (ByteArray) := (spec_l13Gen.f k a0_0 a0_1 l0_2 a0_1).bind fun t166 => (if t166 < 0 then (some (⟨#[]⟩ : ByteArray)) else (if 0 ≤ t166 then (if t166 < (l0_2.length : Int) then (some ((rd_T56 l0_2 t166).f1)) else (none)) else (none)))
theorem spec_l13Current.mono : ∀ a0 a1 a2 k, LeO (spec_l13Current.f k a0 a1 a2) (spec_l13Current.f (k + 1) a0 a1 a2) := by
 intro a0 a1 a2 k
 unfold spec_l13Current.f
 repeat' first
   | (with_reducible exact spec_l13Gen.mono _ _ _ _ _)
   | (with_reducible exact LeO.refl _)
   | (with_reducible exact LeO.none _)
   | (with_reducible refine LeO.ite ?_ ?_)
   | (with_reducible refine LeO.bind ?_ (fun _ => ?_))
   | exact spec_l13Gen.mono _ _ _ _ _
   | exact LeO.none _
   | refine LeO.ite ?_ ?_
   | refine LeO.bind ?_ (fun _ => ?_)
set_option maxHeartbeats 8000000 in
set_option maxRecDepth 100000 in
theorem spec_l13Current.calls (k : Nat) (a0_0 : ByteArray) (a0_1 : Int) (A0_2 : Option Addr) (c0_2 : Nat) (l0_2 : List (S56)) (r : ByteArray) (w : World) (hr0_2 : Kd.C k56 w A0_2 l0_2.length l0_2) (hc0_2 : l0_2.length ≤ c0_2) (h : spec_l13Current.f k a0_0 a0_1 l0_2 = some r) :
  Calls Try.prog 38 #[.agg #[.string a0_0, .int .i64 a0_1, .slice A0_2 l0_2.length c0_2]] w fun e w' => e = .returned (.string r) ∧ Below w.heap.size w w' := by
 have hu52 := Try.underlying52
 have HR0_2 := Aside0.mk hr0_2
 have HC0_2 := Aside0.mk hc0_2
 clear hr0_2 hc0_2
 have HB := Aside0.mk (Below.refl w.heap.size w)
 have H : ((spec_l13Gen.f k a0_0 a0_1 l0_2 a0_1).bind fun t166 => (if t166 < 0 then (some (⟨#[]⟩ : ByteArray)) else (if 0 ≤ t166 then (if t166 < (l0_2.length : Int) then (some ((rd_T56 l0_2 t166).f1)) else (none)) else (none)))) = some r := h
 clear h
 replace H := Option.bind_eq_some_iff.mp H
 obtain ⟨t166, A20, H⟩ := H
 replace H : (if t166 < 0 then (some (⟨#[]⟩ : ByteArray)) else (if 0 ≤ t166 then (if t166 < (l0_2.length : Int) then (some ((rd_T56 l0_2 t166).f1)) else (none)) else (none))) = some r := H
 have A2 := Aside0.mk A20
 clear A20
 by_cases c3 : t166 < 0
 ·rw [if_pos c3] at H
  have c3b0 : decide (t166 < 0) = true := decide_eq_true c3
  clear c3
  obtain rfl := Option.some.inj H
  go_enter Try.func38, Try.ntmps38
  go_wp2_with (first | ((with_reducible refine gate_dst (N := 1) rfl ?_); refine box_event ?hg (N := 1) ?hd (cs := #[.string a0_0, .int .i64 a0_1, .slice A0_2 l0_2.length c0_2]) (t := 52) ?hr ?_; (case hd => rfl); (case hg => rfl); (case hr => first | (go_simp; done) | (go_simp; rfl)); intro gb165 hg w4 hbox hb; have n0_ := Aside0.mk (below_step qB hb); have n1_ := Aside0.mk (hbox); have n2_ := Aside0.mk ((by rw [hg]; exact (below_size qB) : w.heap.size ≤ gb165)); have n3_ := Aside0.mk ((by rw [hg]; exact (below_size qB) : w.heap.size ≤ gb165)); clear HB; have HB := n0_; have BK165 := n1_; have GW165 := n2_; have GE165 := n3_; clear n0_ n1_ n2_ n3_; clear hb hbox hg; have hcz5_0 : w4.cell? ⟨gb165, 0, none⟩ = some (.string a0_0) := (blk_cell BK165.out 0).trans rfl; have hcz5_1 : w4.cell? ⟨gb165, 1, none⟩ = some (.int .i64 a0_1) := (blk_cell BK165.out 1).trans rfl; have hcz5_2 : w4.cell? ⟨gb165, 2, none⟩ = some (.slice A0_2 l0_2.length c0_2) := (blk_cell BK165.out 2).trans rfl; have hfz5_0 := blk_frozen BK165.out 0; have hfz5_1 := blk_frozen BK165.out 1; have hfz5_2 := blk_frozen BK165.out 2) | ((with_reducible refine gate_callee (f := 31) rfl ?_); refine goesL_ (some 7) rfl rfl Try.func31 (by kernel_rfl) rfl #[.agg #[.string a0_0, .int .i64 a0_1, .slice A0_2 l0_2.length c0_2], .int .i64 a0_1] rfl (by (try simp only [List.map_toArray, List.map_cons, List.map_nil]); first | done | rfl | (simp only [List.length_drop, List.length_take]; rfl)) ?_; (with_reducible refine (spec_l13Gen.calls k a0_0 a0_1 _ _ l0_2 a0_1 t166 _ ?side1 ?side2 A2.out).mono ?_); (case side1 => repeat (first | exact (Kd.C_below HR0_2.out HB.out) | (with_reducible refine Kd.C_alloc ?_ _) | (with_reducible refine Kd.C_drewN ?_ _) | (with_reducible refine Kd.C_drew ?_))); (case side2 => exact HC0_2.out); rintro e w6 ⟨rfl, hb⟩; refine ⟨_, rfl, ?_⟩; have n0_ := Aside0.mk (blk_below (g := gb165) (qK BK165.out) hb); have n1_ := Aside0.mk (below_step (qG GE165.out) hb); clear BK165; clear HB; have BK165 := n0_; have HB := n1_; clear n0_ n1_; (try clear hb); (try clear hb2); (try clear hk); (try clear hi)))
  go_ret
  exact ⟨by first | rfl | (simp [errW_none, errW_some] <;> rfl) | (simp [*, errW_none, errW_some] <;> rfl), by repeat (first | (with_reducible first | exact HB.out | apply below_alloc | apply pw_below_drewN | apply below_drew1 | refine below_set ?_ GE165.out) | exact HB.out)⟩
 ·rw [if_neg c3] at H
  have c3b0 : decide (t166 < 0) = false := decide_eq_false c3
  clear c3
  by_cases c7 : 0 ≤ t166
  ·rw [if_pos c7] at H
   have c7b0 : decide (0 ≤ t166) = true := decide_eq_true c7
   clear c7
   by_cases c8 : t166 < (l0_2.length : Int)
   ·rw [if_pos c8] at H
    have c8b0 : decide (t166 < (l0_2.length : Int)) = true := decide_eq_true c8
    clear c8
    obtain rfl := Option.some.inj H
    go_enter Try.func38, Try.ntmps38
    go_wp2_with (first | ((with_reducible refine gate_dst (N := 1) rfl ?_); refine box_event ?hg (N := 1) ?hd (cs := #[.string a0_0, .int .i64 a0_1, .slice A0_2 l0_2.length c0_2]) (t := 52) ?hr ?_; (case hd => rfl); (case hg => rfl); (case hr => first | (go_simp; done) | (go_simp; rfl)); intro gb165 hg w9 hbox hb; have n0_ := Aside0.mk (below_step qB hb); have n1_ := Aside0.mk (hbox); have n2_ := Aside0.mk ((by rw [hg]; exact (below_size qB) : w.heap.size ≤ gb165)); have n3_ := Aside0.mk ((by rw [hg]; exact (below_size qB) : w.heap.size ≤ gb165)); clear HB; have HB := n0_; have BK165 := n1_; have GW165 := n2_; have GE165 := n3_; clear n0_ n1_ n2_ n3_; clear hb hbox hg; have hcz10_0 : w9.cell? ⟨gb165, 0, none⟩ = some (.string a0_0) := (blk_cell BK165.out 0).trans rfl; have hcz10_1 : w9.cell? ⟨gb165, 1, none⟩ = some (.int .i64 a0_1) := (blk_cell BK165.out 1).trans rfl; have hcz10_2 : w9.cell? ⟨gb165, 2, none⟩ = some (.slice A0_2 l0_2.length c0_2) := (blk_cell BK165.out 2).trans rfl; have hfz10_0 := blk_frozen BK165.out 0; have hfz10_1 := blk_frozen BK165.out 1; have hfz10_2 := blk_frozen BK165.out 2) | ((with_reducible refine gate_callee (f := 31) rfl ?_); refine goesL_ (some 7) rfl rfl Try.func31 (by kernel_rfl) rfl #[.agg #[.string a0_0, .int .i64 a0_1, .slice A0_2 l0_2.length c0_2], .int .i64 a0_1] rfl (by (try simp only [List.map_toArray, List.map_cons, List.map_nil]); first | done | rfl | (simp only [List.length_drop, List.length_take]; rfl)) ?_; (with_reducible refine (spec_l13Gen.calls k a0_0 a0_1 _ _ l0_2 a0_1 t166 _ ?side1 ?side2 A2.out).mono ?_); (case side1 => repeat (first | exact (Kd.C_below HR0_2.out HB.out) | (with_reducible refine Kd.C_alloc ?_ _) | (with_reducible refine Kd.C_drewN ?_ _) | (with_reducible refine Kd.C_drew ?_))); (case side2 => exact HC0_2.out); rintro e w11 ⟨rfl, hb⟩; refine ⟨_, rfl, ?_⟩; have n0_ := Aside0.mk (blk_below (g := gb165) (qK BK165.out) hb); have n1_ := Aside0.mk (below_step (qG GE165.out) hb); clear BK165; clear HB; have BK165 := n0_; have HB := n1_; clear n0_ n1_; (try clear hb); (try clear hb2); (try clear hk); (try clear hi); have hcz12_0 : w11.cell? ⟨gb165, 0, none⟩ = some (.string a0_0) := (blk_cell BK165.out 0).trans rfl; have hcz12_1 : w11.cell? ⟨gb165, 1, none⟩ = some (.int .i64 a0_1) := (blk_cell BK165.out 1).trans rfl; have hcz12_2 : w11.cell? ⟨gb165, 2, none⟩ = some (.slice A0_2 l0_2.length c0_2) := (blk_cell BK165.out 2).trans rfl; have hfz12_0 := blk_frozen BK165.out 0; have hfz12_1 := blk_frozen BK165.out 1; have hfz12_2 := blk_frozen BK165.out 2; have p167 : 0 ≤ (t166 : Int) := of_decide_eq_true (by first | (with_reducible assumption) | assumption); have q167 : t166 < (l0_2.length : Int) := of_decide_eq_true (by first | (with_reducible assumption) | assumption); obtain ⟨ad167, e167, hx167_0, hx167_1⟩ := at_T56 HR0_2.out t166 p167 q167; cases e167; replace hx167_0 := (HB.out.cell (World.block_lt_of_cell? w _ hx167_0)).trans hx167_0; replace hx167_1 := (HB.out.cell (World.block_lt_of_cell? w _ hx167_1)).trans hx167_1; replace p167 := eq_true p167; replace q167 := eq_true q167))
    go_ret
    exact ⟨by first | rfl | (simp [errW_none, errW_some] <;> rfl) | (simp [*, errW_none, errW_some] <;> rfl), by repeat (first | (with_reducible first | exact HB.out | apply below_alloc | apply pw_below_drewN | apply below_drew1 | refine below_set ?_ GE165.out) | exact HB.out)⟩
   ·rw [if_neg c8] at H
    exact absurd H (by simp)
  ·rw [if_neg c7] at H
   exact absurd H (by simp)

/-! ### spec_Current: function 14 -/
def spec_Current.f (k : Nat) (l0 : List (S52)) (a1 : ByteArray) : Option (ByteArray) := (spec_l13Find.f k l0 a1).bind fun t168 => ((spec_ProfilesOk.f k l0).bind fun t169 => (if t169 = true then (if t168 < 0 then (some (⟨#[]⟩ : ByteArray)) else (if 0 ≤ t168 then (if t168 < (l0.length : Int) then ((spec_l13Current.f k ((rd_T52 l0 t168).f0) ((rd_T52 l0 t168).f1) ((rd_T52 l0 t168).f2)).bind fun t171 => (some t171)) else (none)) else (none))) else (some (⟨#[]⟩ : ByteArray))))
theorem spec_Current.mono : ∀ a0 a1 k, LeO (spec_Current.f k a0 a1) (spec_Current.f (k + 1) a0 a1) := by
 intro a0 a1 k
 unfold spec_Current.f
 repeat' first
   | (with_reducible exact spec_ProfilesOk.mono _ _)
   | (with_reducible exact spec_l13Current.mono _ _ _ _)
   | (with_reducible exact spec_l13Find.mono _ _ _)
   | (with_reducible exact LeO.refl _)
   | (with_reducible exact LeO.none _)
   | (with_reducible refine LeO.ite ?_ ?_)
   | (with_reducible refine LeO.bind ?_ (fun _ => ?_))
   | exact spec_ProfilesOk.mono _ _
   | exact spec_l13Current.mono _ _ _ _
   | exact spec_l13Find.mono _ _ _
   | exact LeO.none _
   | refine LeO.ite ?_ ?_
   | refine LeO.bind ?_ (fun _ => ?_)
set_option maxHeartbeats 8000000 in
set_option maxRecDepth 100000 in
theorem spec_Current.calls (k : Nat) (A0 : Option Addr) (c0 : Nat) (l0 : List (S52)) (a1 : ByteArray) (r : ByteArray) (w : World) (hr0 : Kd.C k52 w A0 l0.length l0) (hc0 : l0.length ≤ c0) (h : spec_Current.f k l0 a1 = some r) :
  Calls Try.prog 14 #[.slice A0 l0.length c0, .string a1] w fun e w' => e = .returned (.string r) ∧ Below w.heap.size w w' := by
 have hu52 := Try.underlying52
 have HR0 := Aside0.mk hr0
 have HC0 := Aside0.mk hc0
 clear hr0 hc0
 have HB := Aside0.mk (Below.refl w.heap.size w)
 have H : ((spec_l13Find.f k l0 a1).bind fun t168 => ((spec_ProfilesOk.f k l0).bind fun t169 => (if t169 = true then (if t168 < 0 then (some (⟨#[]⟩ : ByteArray)) else (if 0 ≤ t168 then (if t168 < (l0.length : Int) then ((spec_l13Current.f k ((rd_T52 l0 t168).f0) ((rd_T52 l0 t168).f1) ((rd_T52 l0 t168).f2)).bind fun t171 => (some t171)) else (none)) else (none))) else (some (⟨#[]⟩ : ByteArray))))) = some r := h
 clear h
 replace H := Option.bind_eq_some_iff.mp H
 obtain ⟨t168, A30, H⟩ := H
 replace H : ((spec_ProfilesOk.f k l0).bind fun t169 => (if t169 = true then (if t168 < 0 then (some (⟨#[]⟩ : ByteArray)) else (if 0 ≤ t168 then (if t168 < (l0.length : Int) then ((spec_l13Current.f k ((rd_T52 l0 t168).f0) ((rd_T52 l0 t168).f1) ((rd_T52 l0 t168).f2)).bind fun t171 => (some t171)) else (none)) else (none))) else (some (⟨#[]⟩ : ByteArray)))) = some r := H
 have A3 := Aside0.mk A30
 clear A30
 replace H := Option.bind_eq_some_iff.mp H
 obtain ⟨t169, A40, H⟩ := H
 replace H : (if t169 = true then (if t168 < 0 then (some (⟨#[]⟩ : ByteArray)) else (if 0 ≤ t168 then (if t168 < (l0.length : Int) then ((spec_l13Current.f k ((rd_T52 l0 t168).f0) ((rd_T52 l0 t168).f1) ((rd_T52 l0 t168).f2)).bind fun t171 => (some t171)) else (none)) else (none))) else (some (⟨#[]⟩ : ByteArray))) = some r := H
 have A4 := Aside0.mk A40
 clear A40
 by_cases c5 : t169 = true
 ·subst c5
  have H1 : (if t168 < 0 then (some (⟨#[]⟩ : ByteArray)) else (if 0 ≤ t168 then (if t168 < (l0.length : Int) then ((spec_l13Current.f k ((rd_T52 l0 t168).f0) ((rd_T52 l0 t168).f1) ((rd_T52 l0 t168).f2)).bind fun t171 => (some t171)) else (none)) else (none))) = some r := by rw [if_pos rfl] at H; exact H
  clear H
  have H := H1
  clear H1
  by_cases c6 : t168 < 0
  ·rw [if_pos c6] at H
   have c6b0 : decide (t168 < 0) = true := decide_eq_true c6
   clear c6
   obtain rfl := Option.some.inj H
   go_enter Try.func14, Try.ntmps14
   go_wp2_with (first | ((with_reducible refine gate_callee (f := 37) rfl ?_); refine goesL_ (some 8) rfl rfl Try.func37 (by kernel_rfl) rfl #[.slice A0 l0.length c0, .string a1] rfl (by (try simp only [List.map_toArray, List.map_cons, List.map_nil]); first | done | rfl | (simp only [List.length_drop, List.length_take]; rfl)) ?_; (with_reducible refine (spec_l13Find.calls k _ _ l0 a1 t168 _ ?side1 ?side2 A3.out).mono ?_); (case side1 => repeat (first | exact HR0.out | (with_reducible refine Kd.C_alloc ?_ _) | (with_reducible refine Kd.C_drewN ?_ _) | (with_reducible refine Kd.C_drew ?_))); (case side2 => exact HC0.out); rintro e w' ⟨rfl, ⟨nd, rfl⟩⟩; refine ⟨_, rfl, ?_⟩) | ((with_reducible refine gate_callee (f := 10) rfl ?_); refine goesL_ (some 10) rfl rfl Try.func10 (by kernel_rfl) rfl #[.slice A0 l0.length c0] rfl (by (try simp only [List.map_toArray, List.map_cons, List.map_nil]); first | done | rfl | (simp only [List.length_drop, List.length_take]; rfl)) ?_; (with_reducible refine (spec_ProfilesOk.calls k _ _ l0 true _ ?side1 ?side2 A4.out).mono ?_); (case side1 => repeat (first | exact HR0.out | (with_reducible refine Kd.C_alloc ?_ _) | (with_reducible refine Kd.C_drewN ?_ _) | (with_reducible refine Kd.C_drew ?_))); (case side2 => exact HC0.out); rintro e w7 ⟨rfl, hb⟩; refine ⟨_, rfl, ?_⟩; have n0_ := Aside0.mk (below_step qB hb); clear HB; have HB := n0_; clear n0_; (try clear hb); (try clear hb2); (try clear hk); (try clear hi)))
   go_ret
   exact ⟨by first | rfl | (simp [errW_none, errW_some] <;> rfl) | (simp [*, errW_none, errW_some] <;> rfl), by repeat (first | (with_reducible first | exact HB.out | apply below_alloc | apply pw_below_drewN | apply below_drew1) | exact HB.out)⟩
  ·rw [if_neg c6] at H
   have c6b0 : decide (t168 < 0) = false := decide_eq_false c6
   clear c6
   by_cases c8 : 0 ≤ t168
   ·rw [if_pos c8] at H
    have c8b0 : decide (0 ≤ t168) = true := decide_eq_true c8
    clear c8
    by_cases c9 : t168 < (l0.length : Int)
    ·rw [if_pos c9] at H
     have c9b0 : decide (t168 < (l0.length : Int)) = true := decide_eq_true c9
     clear c9
     replace H := Option.bind_eq_some_iff.mp H
     obtain ⟨t171, A100, H⟩ := H
     replace H : (some t171) = some r := H
     have A10 := Aside0.mk A100
     clear A100
     obtain rfl := Option.some.inj H
     go_enter Try.func14, Try.ntmps14
     go_wp2_with (first | ((with_reducible refine gate_callee (f := 37) rfl ?_); refine goesL_ (some 8) rfl rfl Try.func37 (by kernel_rfl) rfl #[.slice A0 l0.length c0, .string a1] rfl (by (try simp only [List.map_toArray, List.map_cons, List.map_nil]); first | done | rfl | (simp only [List.length_drop, List.length_take]; rfl)) ?_; (with_reducible refine (spec_l13Find.calls k _ _ l0 a1 t168 _ ?side1 ?side2 A3.out).mono ?_); (case side1 => repeat (first | exact HR0.out | (with_reducible refine Kd.C_alloc ?_ _) | (with_reducible refine Kd.C_drewN ?_ _) | (with_reducible refine Kd.C_drew ?_))); (case side2 => exact HC0.out); rintro e w' ⟨rfl, ⟨nd, rfl⟩⟩; refine ⟨_, rfl, ?_⟩) | ((with_reducible refine gate_callee (f := 10) rfl ?_); refine goesL_ (some 10) rfl rfl Try.func10 (by kernel_rfl) rfl #[.slice A0 l0.length c0] rfl (by (try simp only [List.map_toArray, List.map_cons, List.map_nil]); first | done | rfl | (simp only [List.length_drop, List.length_take]; rfl)) ?_; (with_reducible refine (spec_ProfilesOk.calls k _ _ l0 true _ ?side1 ?side2 A4.out).mono ?_); (case side1 => repeat (first | exact HR0.out | (with_reducible refine Kd.C_alloc ?_ _) | (with_reducible refine Kd.C_drewN ?_ _) | (with_reducible refine Kd.C_drew ?_))); (case side2 => exact HC0.out); rintro e w11 ⟨rfl, hb⟩; refine ⟨_, rfl, ?_⟩; have n0_ := Aside0.mk (below_step qB hb); clear HB; have HB := n0_; clear n0_; (try clear hb); (try clear hb2); (try clear hk); (try clear hi); have p170 : 0 ≤ (t168 : Int) := of_decide_eq_true (by first | (with_reducible assumption) | assumption); have q170 : t168 < (l0.length : Int) := of_decide_eq_true (by first | (with_reducible assumption) | assumption); obtain ⟨ad170, A170_2, c170_2, e170, hx170_0, hx170_1, hx170_2, hl170_2, hi170_2⟩ := at_T52 HR0.out t168 p170 q170; cases e170; replace hx170_0 := (HB.out.cell (World.block_lt_of_cell? w _ hx170_0)).trans hx170_0; replace hx170_1 := (HB.out.cell (World.block_lt_of_cell? w _ hx170_1)).trans hx170_1; replace hx170_2 := (HB.out.cell (World.block_lt_of_cell? w _ hx170_2)).trans hx170_2; have HR170_2 := Aside0.mk hi170_2; have HC170_2 := Aside0.mk hl170_2; clear hi170_2 hl170_2; replace p170 := eq_true p170; replace q170 := eq_true q170) | ((with_reducible refine gate_callee (f := 38) rfl ?_); refine goesL_ (some 20) rfl rfl Try.func38 (by kernel_rfl) rfl #[.agg #[.string ((rd_T52 l0 t168).f0), .int .i64 ((rd_T52 l0 t168).f1), .slice A170_2 ((rd_T52 l0 t168).f2).length c170_2]] rfl (by (try simp only [List.map_toArray, List.map_cons, List.map_nil]); first | done | rfl | (simp only [List.length_drop, List.length_take]; rfl)) ?_; (with_reducible refine (spec_l13Current.calls k ((rd_T52 l0 t168).f0) ((rd_T52 l0 t168).f1) _ _ ((rd_T52 l0 t168).f2) t171 _ ?side1 ?side2 A10.out).mono ?_); (case side1 => repeat (first | exact (Kd.C_below HR170_2.out HB.out) | (with_reducible refine Kd.C_alloc ?_ _) | (with_reducible refine Kd.C_drewN ?_ _) | (with_reducible refine Kd.C_drew ?_))); (case side2 => exact HC170_2.out); rintro e w12 ⟨rfl, hb⟩; refine ⟨_, rfl, ?_⟩; have n0_ := Aside0.mk (below_step qB hb); clear HB; have HB := n0_; clear n0_; (try clear hb); (try clear hb2); (try clear hk); (try clear hi)))
     go_ret
     exact ⟨by first | rfl | (simp [errW_none, errW_some] <;> rfl) | (simp [*, errW_none, errW_some] <;> rfl), by repeat (first | (with_reducible first | exact HB.out | apply below_alloc | apply pw_below_drewN | apply below_drew1) | exact HB.out)⟩
    ·rw [if_neg c9] at H
     exact absurd H (by simp)
   ·rw [if_neg c8] at H
    exact absurd H (by simp)
 ·replace c5 := Bool.eq_false_iff.mpr c5
  subst c5
  have H1 : (some (⟨#[]⟩ : ByteArray)) = some r := by rw [if_neg (show ¬ (false = true) by decide)] at H; exact H
  clear H
  have H := H1
  clear H1
  obtain rfl := Option.some.inj H
  go_enter Try.func14, Try.ntmps14
  go_wp2_with (first | ((with_reducible refine gate_callee (f := 37) rfl ?_); refine goesL_ (some 8) rfl rfl Try.func37 (by kernel_rfl) rfl #[.slice A0 l0.length c0, .string a1] rfl (by (try simp only [List.map_toArray, List.map_cons, List.map_nil]); first | done | rfl | (simp only [List.length_drop, List.length_take]; rfl)) ?_; (with_reducible refine (spec_l13Find.calls k _ _ l0 a1 t168 _ ?side1 ?side2 A3.out).mono ?_); (case side1 => repeat (first | exact HR0.out | (with_reducible refine Kd.C_alloc ?_ _) | (with_reducible refine Kd.C_drewN ?_ _) | (with_reducible refine Kd.C_drew ?_))); (case side2 => exact HC0.out); rintro e w' ⟨rfl, ⟨nd, rfl⟩⟩; refine ⟨_, rfl, ?_⟩) | ((with_reducible refine gate_callee (f := 10) rfl ?_); refine goesL_ (some 10) rfl rfl Try.func10 (by kernel_rfl) rfl #[.slice A0 l0.length c0] rfl (by (try simp only [List.map_toArray, List.map_cons, List.map_nil]); first | done | rfl | (simp only [List.length_drop, List.length_take]; rfl)) ?_; (with_reducible refine (spec_ProfilesOk.calls k _ _ l0 false _ ?side1 ?side2 A4.out).mono ?_); (case side1 => repeat (first | exact HR0.out | (with_reducible refine Kd.C_alloc ?_ _) | (with_reducible refine Kd.C_drewN ?_ _) | (with_reducible refine Kd.C_drew ?_))); (case side2 => exact HC0.out); rintro e w13 ⟨rfl, hb⟩; refine ⟨_, rfl, ?_⟩; have n0_ := Aside0.mk (below_step qB hb); clear HB; have HB := n0_; clear n0_; (try clear hb); (try clear hb2); (try clear hk); (try clear hi)))
  go_ret
  exact ⟨by first | rfl | (simp [errW_none, errW_some] <;> rfl) | (simp [*, errW_none, errW_some] <;> rfl), by repeat (first | (with_reducible first | exact HB.out | apply below_alloc | apply pw_below_drewN | apply below_drew1) | exact HB.out)⟩

/-! ### impl_letter: function 58 -/
def impl_letter.f (a0 : Int) : Option (Bool) := if a0 ≥ 97 then (if a0 ≤ 122 then (some true) else (if a0 ≥ 65 then (some (decide (a0 ≤ 90))) else (some false))) else (if a0 ≥ 65 then (some (decide (a0 ≤ 90))) else (some false))
set_option maxHeartbeats 8000000 in
set_option maxRecDepth 100000 in
theorem impl_letter.calls (a0 : Int) (r : Bool) (w : World) (h : impl_letter.f a0 = some r) :
  Calls Try.prog 58 #[.int .u8 a0] w fun e w' => e = .returned (.bool r) ∧ Drawn0 w w' := by
 have H : (if a0 ≥ 97 then (if a0 ≤ 122 then (some true) else (if a0 ≥ 65 then (some (decide (a0 ≤ 90))) else (some false))) else (if a0 ≥ 65 then (some (decide (a0 ≤ 90))) else (some false))) = some r := h
 clear h
 by_cases c2 : a0 ≥ 97
 ·rw [if_pos c2] at H
  have c2b0 : decide (97 ≤ a0) = true := decide_eq_true c2
  clear c2
  by_cases c3 : a0 ≤ 122
  ·rw [if_pos c3] at H
   have c3b0 : decide (a0 ≤ 122) = true := decide_eq_true c3
   clear c3
   obtain rfl := Option.some.inj H
   go_enter Try.func58, Try.ntmps58
   go_wp2
   go_ret
   exact ⟨by first | rfl | (simp; done) | (simp [*]; done), by repeat (first | exact Drawn0.refl _ | apply Drawn0.step)⟩
  ·rw [if_neg c3] at H
   have c3b0 : decide (a0 ≤ 122) = false := decide_eq_false c3
   clear c3
   by_cases c4 : a0 ≥ 65
   ·rw [if_pos c4] at H
    have c4b0 : decide (65 ≤ a0) = true := decide_eq_true c4
    clear c4
    obtain rfl := Option.some.inj H
    go_enter Try.func58, Try.ntmps58
    go_wp2
    go_ret
    exact ⟨by first | rfl | (simp; done) | (simp [*]; done), by repeat (first | exact Drawn0.refl _ | apply Drawn0.step)⟩
   ·rw [if_neg c4] at H
    have c4b0 : decide (65 ≤ a0) = false := decide_eq_false c4
    clear c4
    obtain rfl := Option.some.inj H
    go_enter Try.func58, Try.ntmps58
    go_wp2
    go_ret
    exact ⟨by first | rfl | (simp; done) | (simp [*]; done), by repeat (first | exact Drawn0.refl _ | apply Drawn0.step)⟩
 ·rw [if_neg c2] at H
  have c2b0 : decide (97 ≤ a0) = false := decide_eq_false c2
  clear c2
  by_cases c5 : a0 ≥ 65
  ·rw [if_pos c5] at H
   have c5b0 : decide (65 ≤ a0) = true := decide_eq_true c5
   clear c5
   obtain rfl := Option.some.inj H
   go_enter Try.func58, Try.ntmps58
   go_wp2
   go_ret
   exact ⟨by first | rfl | (simp; done) | (simp [*]; done), by repeat (first | exact Drawn0.refl _ | apply Drawn0.step)⟩
  ·rw [if_neg c5] at H
   have c5b0 : decide (65 ≤ a0) = false := decide_eq_false c5
   clear c5
   obtain rfl := Option.some.inj H
   go_enter Try.func58, Try.ntmps58
   go_wp2
   go_ret
   exact ⟨by first | rfl | (simp; done) | (simp [*]; done), by repeat (first | exact Drawn0.refl _ | apply Drawn0.step)⟩

/-! ### impl_digit: function 59 -/
def impl_digit.f (a0 : Int) : Option (Bool) := if a0 ≥ 48 then (some (decide (a0 ≤ 57))) else (some false)
set_option maxHeartbeats 8000000 in
set_option maxRecDepth 100000 in
theorem impl_digit.calls (a0 : Int) (r : Bool) (w : World) (h : impl_digit.f a0 = some r) :
  Calls Try.prog 59 #[.int .u8 a0] w fun e w' => e = .returned (.bool r) ∧ Drawn0 w w' := by
 have H : (if a0 ≥ 48 then (some (decide (a0 ≤ 57))) else (some false)) = some r := h
 clear h
 by_cases c2 : a0 ≥ 48
 ·rw [if_pos c2] at H
  have c2b0 : decide (48 ≤ a0) = true := decide_eq_true c2
  clear c2
  obtain rfl := Option.some.inj H
  go_enter Try.func59, Try.ntmps59
  go_wp2
  go_ret
  exact ⟨by first | rfl | (simp; done) | (simp [*]; done), by repeat (first | exact Drawn0.refl _ | apply Drawn0.step)⟩
 ·rw [if_neg c2] at H
  have c2b0 : decide (48 ≤ a0) = false := decide_eq_false c2
  clear c2
  obtain rfl := Option.some.inj H
  go_enter Try.func59, Try.ntmps59
  go_wp2
  go_ret
  exact ⟨by first | rfl | (simp; done) | (simp [*]; done), by repeat (first | exact Drawn0.refl _ | apply Drawn0.step)⟩

-- NOT PRINTED: function 78 (bytealg_IndexByteString)

-- NOT PRINTED: function 77 (stringslite_IndexByte)

/-! ### strings_IndexByte: function 70 -/
set_option maxRecDepth 100000 in
set_option maxHeartbeats 2000000 in
theorem stringslite_IndexByte_calls (s : ByteArray) (c : Int) (w : World) :
    Calls Try.prog 77 #[.string s, .int .u8 c] w fun e w' => e = .returned (.int .i64 (Lib.indexByte s.data.toList c.toNat.toUInt8)) ∧ w' = w := by
  go_enter Try.func77, Try.ntmps77
  go_wp2
  rw [run_callFunc_extern Try.func78 (by kernel_rfl) (by kernel_rfl) (by kernel_rfl) (e := Extern.BytealgIndexByte.indexByte) (by kernel_rfl), Lib.run_indexByteString]
  simp only [Result.andThen]
  rw [Oper.upon_value]
  go_wp2
  go_ret
  exact ⟨rfl, rfl⟩
def strings_IndexByte.f (a0 : ByteArray) (a1 : Int) : Option (Int) := some (Lib.indexByte a0.data.toList a1.toNat.toUInt8)
set_option maxRecDepth 100000 in
set_option maxHeartbeats 2000000 in
theorem strings_IndexByte.calls (a0 : ByteArray) (a1 : Int) (r : Int) (w : World) (h : strings_IndexByte.f a0 a1 = some r) :
    Calls Try.prog 70 #[.string a0, .int .u8 a1] w fun e w' => e = .returned (.int .i64 r) ∧ Drawn0 w w' := by
  obtain rfl : Lib.indexByte a0.data.toList a1.toNat.toUInt8 = r := by simpa [strings_IndexByte.f] using h
  clear h
  go_enter Try.func70, Try.ntmps70
  go_wp2_with (go_at_call 77; refine (stringslite_IndexByte_calls _ _ _).mono ?_; rintro e w' ⟨rfl, rfl⟩)
  go_ret
  exact ⟨rfl, Drawn0.refl _⟩

/-! ### utf8_ValidRune: function 74 -/
def utf8_ValidRune.j0 : Nat → Int → Bool → Option (Bool)
 | 0, _, _ => none
 | k + 1, x0, x3 => if x3 = true then (some true) else (if 57343 < x0 then (if x0 ≤ 1114111 then (some true) else (some false)) else (some false))
def utf8_ValidRune.f (k : Nat) (a0 : Int) : Option (Bool) := if 0 ≤ a0 then (utf8_ValidRune.j0 k a0 (decide (a0 < 55296))) else (utf8_ValidRune.j0 k a0 false)
theorem utf8_ValidRune.mono_l : ∀ k, (∀ y0 y1, LeO (utf8_ValidRune.j0 k y0 y1) (utf8_ValidRune.j0 (k + 1) y0 y1))
 | 0 => fun _ _ r h => by simp [utf8_ValidRune.j0] at h
 | k + 1 => by
  have ih0 := utf8_ValidRune.mono_l k
  ·intro y0 y1
   unfold utf8_ValidRune.j0
   repeat' first
   | (with_reducible exact ih0 _ _)
   | (with_reducible exact LeO.refl _)
   | (with_reducible exact LeO.none _)
   | (with_reducible refine LeO.ite ?_ ?_)
   | (with_reducible refine LeO.bind ?_ (fun _ => ?_))
   | exact ih0 _ _
   | exact LeO.none _
   | refine LeO.ite ?_ ?_
   | refine LeO.bind ?_ (fun _ => ?_)
theorem utf8_ValidRune.mono : ∀ a0 k, LeO (utf8_ValidRune.f k a0) (utf8_ValidRune.f (k + 1) a0) := by
 intro a0 k
 have ih0 := utf8_ValidRune.mono_l k
 unfold utf8_ValidRune.f
 repeat' first
   | (with_reducible exact ih0 _ _)
   | (with_reducible exact LeO.refl _)
   | (with_reducible exact LeO.none _)
   | (with_reducible refine LeO.ite ?_ ?_)
   | (with_reducible refine LeO.bind ?_ (fun _ => ?_))
   | exact ih0 _ _
   | exact LeO.none _
   | refine LeO.ite ?_ ?_
   | refine LeO.bind ?_ (fun _ => ?_)
set_option maxHeartbeats 8000000 in
set_option maxRecDepth 100000 in
theorem utf8_ValidRune.calls (k : Nat) (a0 : Int) (r : Bool) (w : World) (h : utf8_ValidRune.f k a0 = some r) :
  Calls Try.prog 74 #[.int .i32 a0] w fun e w' => e = .returned (.bool r) ∧ Drawn0 w w' := by
 have H : (if 0 ≤ a0 then (utf8_ValidRune.j0 k a0 (decide (a0 < 55296))) else (utf8_ValidRune.j0 k a0 false)) = some r := h
 clear h
 have HC2 := Aside0.mk H
 clear H
 go_enter Try.func74, Try.ntmps74
 go_upto_region 1 with (fail)
 go_cut [3] (fun v3 wc => ∃ (kq : Nat) (x3_1 : Bool), v3 = .bool x3_1 ∧ Aside0 (utf8_ValidRune.j0 kq a0 x3_1 = some r) ∧ Aside0 (kq ≤ k) ∧ Drawn0 w wc)
 case first =>
  have H := HC2.out
  clear HC2
  by_cases c3 : 0 ≤ a0
  ·rw [if_pos c3] at H
   have c3b0 : decide (0 ≤ a0) = true := decide_eq_true c3
   clear c3
   (first | rw [c3b0] | (simp only [i64_w, i32_w]; rw [c3b0]) | skip)
   have H' := Aside0.mk H
   clear H
   go_wp2
   go_meet
   case rel => exact ⟨_, (decide (a0 < 55296)), (by first | rfl | (simp; done) | (simp [*]; done)), H', ⟨by first | omega | exact Nat.le_refl _⟩, by repeat (first | exact Drawn0.refl _ | apply Drawn0.step)⟩
  ·rw [if_neg c3] at H
   have c3b0 : decide (0 ≤ a0) = false := decide_eq_false c3
   clear c3
   (first | rw [c3b0] | (simp only [i64_w, i32_w]; rw [c3b0]) | skip)
   have H' := Aside0.mk H
   clear H
   go_wp2
   go_meet
   case rel => exact ⟨_, (false), (by first | rfl | (simp; done) | (simp [*]; done)), H', ⟨by first | omega | exact Nat.le_refl _⟩, by repeat (first | exact Drawn0.refl _ | apply Drawn0.step)⟩
 case rest =>
  clear HC2
  try clear p2
  try clear c3
  try clear c3b0
  obtain ⟨kq, x3_1, rfl, HA, HJ1, ⟨mc1, rfl⟩⟩ := hcut
  cases kq with
  | zero => exact absurd HA.out (by simp [utf8_ValidRune.j0])
  | succ kj1 =>
   have H := HA.out
   clear HA
   simp only [utf8_ValidRune.j0] at H
   by_cases c4 : x3_1 = true
   ·subst c4
    have H1 : (some true) = some r := by rw [if_pos rfl] at H; exact H
    clear H
    have H := H1
    clear H1
    obtain rfl := Option.some.inj H
    go_wp2
    go_ret
    exact ⟨by first | rfl | (simp; done) | (simp [*]; done), by repeat (first | exact Drawn0.refl _ | apply Drawn0.step)⟩
   ·replace c4 := Bool.eq_false_iff.mpr c4
    subst c4
    have H1 : (if 57343 < a0 then (if a0 ≤ 1114111 then (some true) else (some false)) else (some false)) = some r := by rw [if_neg (show ¬ (false = true) by decide)] at H; exact H
    clear H
    have H := H1
    clear H1
    by_cases c5 : 57343 < a0
    ·rw [if_pos c5] at H
     have c5b0 : decide (57343 < a0) = true := decide_eq_true c5
     clear c5
     by_cases c6 : a0 ≤ 1114111
     ·rw [if_pos c6] at H
      have c6b0 : decide (a0 ≤ 1114111) = true := decide_eq_true c6
      clear c6
      obtain rfl := Option.some.inj H
      go_wp2
      go_ret
      exact ⟨by first | rfl | (simp; done) | (simp [*]; done), by repeat (first | exact Drawn0.refl _ | apply Drawn0.step)⟩
     ·rw [if_neg c6] at H
      have c6b0 : decide (a0 ≤ 1114111) = false := decide_eq_false c6
      clear c6
      obtain rfl := Option.some.inj H
      go_wp2
      go_ret
      exact ⟨by first | rfl | (simp; done) | (simp [*]; done), by repeat (first | exact Drawn0.refl _ | apply Drawn0.step)⟩
    ·rw [if_neg c5] at H
     have c5b0 : decide (57343 < a0) = false := decide_eq_false c5
     clear c5
     obtain rfl := Option.some.inj H
     go_wp2
     go_ret
     exact ⟨by first | rfl | (simp; done) | (simp [*]; done), by repeat (first | exact Drawn0.refl _ | apply Drawn0.step)⟩

/-! ### bytealg_Cutover: function 75 -/
def bytealg_Cutover.f (a0 : Int) : Option (Int) := some (wrap64 (Int.tdiv (wrap64 (a0 + 16)) 8))
set_option maxHeartbeats 8000000 in
set_option maxRecDepth 100000 in
theorem bytealg_Cutover.calls (a0 : Int) (r : Int) (w : World) (h : bytealg_Cutover.f a0 = some r) :
  Calls Try.prog 75 #[.int .i64 a0] w fun e w' => e = .returned (.int .i64 r) ∧ Drawn0 w w' := by
 have H : (some (wrap64 (Int.tdiv (wrap64 (a0 + 16)) 8))) = some r := h
 clear h
 obtain rfl := Option.some.inj H
 go_enter Try.func75, Try.ntmps75
 go_wp2
 go_ret
 exact ⟨by first | rfl | (simp; done) | (simp [*]; done), by repeat (first | exact Drawn0.refl _ | apply Drawn0.step)⟩

-- NOT PRINTED: function 76 (bytealg_IndexString)

-- NOT PRINTED: function 69 (strings_IndexRune)

/-! ### strings_ContainsRune: function 60 -/
set_option maxRecDepth 100000 in
set_option maxHeartbeats 2000000 in
theorem cr_stringslite_calls (s : ByteArray) (c : Int) (w : World) :
    Calls Try.prog 77 #[.string s, .int .u8 c] w fun e w' => e = .returned (.int .i64 (Lib.indexByte s.data.toList c.toNat.toUInt8)) ∧ w' = w := by
  go_enter Try.func77, Try.ntmps77
  go_wp2
  rw [run_callFunc_extern Try.func78 (by kernel_rfl) (by kernel_rfl) (by kernel_rfl) (e := Extern.BytealgIndexByte.indexByte) (by kernel_rfl), Lib.run_indexByteString]
  simp only [Result.andThen]
  rw [Oper.upon_value]
  go_wp2
  go_ret
  exact ⟨rfl, rfl⟩
set_option maxRecDepth 100000 in
set_option maxHeartbeats 2000000 in
theorem cr_IndexByte_calls (s : ByteArray) (c : Int) (w : World) :
    Calls Try.prog 70 #[.string s, .int .u8 c] w fun e w' => e = .returned (.int .i64 (Lib.indexByte s.data.toList c.toNat.toUInt8)) ∧ w' = w := by
  go_enter Try.func70, Try.ntmps70
  go_wp2_with (go_at_call 77; refine (cr_stringslite_calls _ _ _).mono ?_; rintro e w' ⟨rfl, rfl⟩)
  go_ret
  exact ⟨rfl, rfl⟩
set_option maxRecDepth 100000 in
set_option maxHeartbeats 2000000 in
theorem cr_ascii (s : ByteArray) (c : Int) (w : World) (h0 : 0 ≤ c) (h1 : c < 128) :
    Calls Try.prog 69 #[.string s, .int .i32 c] w fun e w' => e = .returned (.int .i64 (Lib.indexByte s.data.toList c.toNat.toUInt8)) ∧ w' = w := by
  have hw : IntKind.u8.wrap c = c := by rw [IntKind.wrap_u8]; omega
  go_enter Try.func69, Try.ntmps69
  go_wp2_with (go_at_call 70; refine (cr_IndexByte_calls _ _ _).mono ?_; rintro e w' ⟨rfl, rfl⟩)
  go_ret
  exact ⟨rfl, rfl⟩
set_option maxRecDepth 100000 in
set_option maxHeartbeats 2000000 in
theorem cr_high (c : Int) (w : World) (h0 : 128 ≤ c) (h1 : c < 256) :
    Calls Try.prog 69 #[.string ⟨#[45, 95, 46, 43]⟩, .int .i32 c] w fun e w' => e = .returned (.int .i64 (-1)) ∧ ∃ n, w' = w.drewN n := by
  obtain ⟨rs, hrs⟩ : ∃ rs, rs = Utf8.encode c := ⟨_, rfl⟩
  have hv : Utf8.valid c = true := by rw [validRune_eq]; simp [validRune]; omega
  obtain ⟨g1, g2, g3⟩ := encode_facts c hv h0
  rw [← hrs] at g1 g2 g3
  have hz : rs.size = 2 := by
    rw [hrs]; unfold Utf8.encode
    have hc : ¬ c.toNat < 128 := by omega
    have hc2 : c.toNat < 2048 := by omega
    simp only [hv, if_true, hc, if_false, hc2]
    rfl
  have hlt : 1 < rs.size := by omega
  have g4 : 128 ≤ (rs[1]'hlt).toNat := by have := g3 (by omega); simpa [hz] using this
  go_enter Try.func69, Try.ntmps69
  have q1 : (c == 65533) = false := by simp; omega
  have q2 : c < 55296 := by omega
  have q3 : 0 ≤ c := by omega
  have q4 : ¬ c < 128 := by omega
  clear hv g1 g2 g3
  have HE : Utf8.encode c = rs := hrs.symm
  clear hrs
  go_wp2_with go_in
  go_step3
  go_wp2_with fail
  refine wp_loop_rounds 1 ?_
  rw [rounds_succ]
  go_wp2_with fail
  go_step3
  go_wp2_with fail
  have q6 : ((((⟨#[45, 95, 46, 43]⟩ : ByteArray)[1]'(by decide)).toNat : Int) != ((rs[1]'hlt).toNat : Int)) = true := by
    have : ((⟨#[45, 95, 46, 43]⟩ : ByteArray)[1]'(by decide)).toNat = 95 := rfl
    rw [this]; simp; omega
  go_quiet (fail)
  go_wp2_with fail
  have q7 : IntKind.i64.wrap 2 = 2 := by rw [IntKind.wrap_i64]; rfl
  go_quiet ((go_at_call 70; refine (cr_IndexByte_calls _ _ _).mono ?_; rintro e w' ⟨rfl, rfl⟩; exact ⟨rfl, _, rfl⟩))
  have q9 : Lib.indexByte [46, 43] (rs[1]'hlt) < 0 := by
    have e1 : ((46 : UInt8) == (rs[1]'hlt)) = false := by
      rw [beq_eq_false_iff_ne]; intro h; rw [← h] at g4; exact absurd g4 (by decide)
    have e2 : ((43 : UInt8) == (rs[1]'hlt)) = false := by
      rw [beq_eq_false_iff_ne]; intro h; rw [← h] at g4; exact absurd g4 (by decide)
    simp [Lib.indexByte, e1, e2]
  go_wp2_with fail
  rw [Exit.noGoto_ret]
  go_wp2_with fail
  rw [Exit.noGoto_ret]
  go_ret
  exact ⟨rfl, _, by first | rfl | exact World.drewN_drewN ..⟩
theorem cr_ix : ∀ c : Fin 128, decide (Lib.indexByte [45, 95, 46, 43] ((c.val : Int)).toNat.toUInt8 ≥ 0) = (c.val == 45 || c.val == 95 || c.val == 46 || c.val == 43) := by decide +kernel
/-- At the one text that the program asks, and at a byte. -/
def strings_ContainsRune.f (a0 : ByteArray) (a1 : Int) : Option (Bool) := if a0.toList = [45, 95, 46, 43] then if 0 ≤ a1 ∧ a1 < 256 then some (a1 == 45 || a1 == 95 || a1 == 46 || a1 == 43) else none else none
set_option maxRecDepth 100000 in
set_option maxHeartbeats 2000000 in
theorem strings_ContainsRune.calls (a0 : ByteArray) (a1 : Int) (r : Bool) (w : World) (h : strings_ContainsRune.f a0 a1 = some r) :
    Calls Try.prog 60 #[.string a0, .int .i32 a1] w fun e w' => e = .returned (.bool r) ∧ Drawn0 w w' := by
  unfold strings_ContainsRune.f at h
  by_cases h1 : a0.toList = [45, 95, 46, 43]
  · obtain rfl : a0 = ⟨#[45, 95, 46, 43]⟩ := by
      have : a0.data.toList = [45, 95, 46, 43] := by rw [← Lib.toList_data]; exact h1
      cases a0; simp at this; simp [← this]
    rw [if_pos h1] at h
    by_cases h2 : 0 ≤ a1 ∧ a1 < 256
    · rw [if_pos h2] at h
      obtain rfl := Option.some.inj h
      obtain ⟨h3, h4⟩ := h2
      clear h h1
      by_cases h5 : a1 < 128
      · have hr : decide (Lib.indexByte (⟨#[45, 95, 46, 43]⟩ : ByteArray).data.toList a1.toNat.toUInt8 ≥ 0) = (a1 == 45 || a1 == 95 || a1 == 46 || a1 == 43) := by
          have := cr_ix ⟨a1.toNat, by omega⟩
          simp only [Int.toNat_of_nonneg h3] at this
          rw [show (⟨#[45, 95, 46, 43]⟩ : ByteArray).data.toList = [45, 95, 46, 43] from rfl, this]
          obtain ⟨n, rfl⟩ := Int.eq_ofNat_of_zero_le h3
          simp only [Int.toNat_natCast]
          rw [Bool.eq_iff_iff]; simp; omega
        rw [← hr]
        generalize hq : Lib.indexByte (⟨#[45, 95, 46, 43]⟩ : ByteArray).data.toList a1.toNat.toUInt8 = q
        have hq := Aside0.mk hq
        clear hr
        go_enter Try.func60, Try.ntmps60
        go_wp2_with (go_at_call 69; refine (cr_ascii _ _ _ h3 h5).mono ?_; rintro e w' ⟨rfl, rfl⟩; rw [hq.out])
        go_ret
        exact ⟨rfl, Drawn0.refl _⟩
      · have hr : (a1 == 45 || a1 == 95 || a1 == 46 || a1 == 43) = false := by simp; omega
        rw [hr]
        have h6 : 128 ≤ a1 := by omega
        clear hr h5
        go_enter Try.func60, Try.ntmps60
        go_wp2_with (go_at_call 69; refine (cr_high _ _ h6 h4).mono ?_; rintro e w' ⟨rfl, n, rfl⟩)
        go_ret
        exact ⟨rfl, ⟨_, rfl⟩⟩
    · rw [if_neg h2] at h; exact absurd h (by simp)
  · rw [if_neg h1] at h; exact absurd h (by simp)

end Go.Proofs.Ytbgnjnlecpdfaaa.PFnExactCurrent
