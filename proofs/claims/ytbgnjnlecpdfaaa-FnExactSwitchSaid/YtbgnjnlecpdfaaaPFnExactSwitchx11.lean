-- Laid by a program of this session: a turned copy of the kit's print, with contracts by hand beside.
import Derived.Test.YtbgnjnlecpdfaaaPFnExactSwitchx0
namespace Go.Proofs.Ytbgnjnlecpdfaaa.PFnExactSwitch
open Go.RowKit Go.Proofs.YtbgnjnlecpdfaaaW.PrintWords Go.Proofs.YtbgnjnlecpdfaaaW.PrintLast Go.Proofs.YtbgnjnlecpdfaaaW.PrintMore
attribute [local go_sem] max2_int min2_int max_two min_two max_three min_three max_four min_four   -- for this text's walks alone
set_option linter.unusedVariables false
set_option linter.unusedSimpArgs false

/-! ### impl_profileOf: function 39 -/
def impl_profileOf.l0 : Nat → ByteArray → List (S52) → Int → Int → Option (Int)
 | 0, _, _, _, _ => none
 | k + 1, x1, x7, x8, x9 => if x9 < x8 then (if 0 ≤ x9 then (if x9 < (x7.length : Int) then (if ((rd_T52 x7 x9).f0).toList = x1.toList then (some x9) else (impl_profileOf.l0 k x1 x7 x8 (wrap64 (x9 + 1)))) else (none)) else (none)) else (some (-1))
def impl_profileOf.f (k : Nat) (l0 : List (S52)) (a1 : ByteArray) : Option (Int) := impl_profileOf.l0 k a1 l0 (l0.length : Int) 0
theorem impl_profileOf.mono_l : ∀ k, (∀ y0 y1 y2 y3, LeO (impl_profileOf.l0 k y0 y1 y2 y3) (impl_profileOf.l0 (k + 1) y0 y1 y2 y3))
 | 0 => fun _ _ _ _ r h => by simp [impl_profileOf.l0] at h
 | k + 1 => by
  have ih0 := impl_profileOf.mono_l k
  ·intro y0 y1 y2 y3
   unfold impl_profileOf.l0
   repeat' first
   | (with_reducible exact ih0 _ _ _ _)
   | (with_reducible exact LeO.refl _)
   | (with_reducible exact LeO.none _)
   | (with_reducible refine LeO.ite ?_ ?_)
   | (with_reducible refine LeO.bind ?_ (fun _ => ?_))
   | exact ih0 _ _ _ _
   | exact LeO.none _
   | refine LeO.ite ?_ ?_
   | refine LeO.bind ?_ (fun _ => ?_)
theorem impl_profileOf.mono : ∀ a0 a1 k, LeO (impl_profileOf.f k a0 a1) (impl_profileOf.f (k + 1) a0 a1) := by
 intro a0 a1 k
 have ih0 := impl_profileOf.mono_l k
 unfold impl_profileOf.f
 repeat' first
   | (with_reducible exact ih0 _ _ _ _)
   | (with_reducible exact LeO.refl _)
   | (with_reducible exact LeO.none _)
   | (with_reducible refine LeO.ite ?_ ?_)
   | (with_reducible refine LeO.bind ?_ (fun _ => ?_))
   | exact ih0 _ _ _ _
   | exact LeO.none _
   | refine LeO.ite ?_ ?_
   | refine LeO.bind ?_ (fun _ => ?_)
set_option maxHeartbeats 8000000 in
set_option maxRecDepth 100000 in
theorem impl_profileOf.calls (k : Nat) (A0 : Option Addr) (c0 : Nat) (l0 : List (S52)) (a1 : ByteArray) (r : Int) (w : World) (hr0 : Kd.C k52 w A0 l0.length l0) (hc0 : l0.length ≤ c0) (h : impl_profileOf.f k l0 a1 = some r) :
  Calls Try.prog 39 #[.slice A0 l0.length c0, .string a1] w fun e w' => e = .returned (.int .i64 r) ∧ Below w.heap.size w w' := by
 have hu52 := Try.underlying52
 have HR0 := Aside0.mk hr0
 have HC0 := Aside0.mk hc0
 clear hr0 hc0
 have HB := Aside0.mk (Below.refl w.heap.size w)
 have H : (impl_profileOf.l0 k a1 l0 (l0.length : Int) 0) = some r := h
 clear h
 have H' := Aside0.mk H
 clear H
 go_enter Try.func39, Try.ntmps39
 go_wp2
 go_loopg [9] k (fun kq v9 w' => ∃ (x9_1 : Int), v9 = .int .i64 x9_1 ∧ Aside0 (impl_profileOf.l0 kq a1 l0 (l0.length : Int) x9_1 = some r) ∧ Aside0 (kq ≤ k) ∧ Aside0 (Below w.heap.size w w'))
 case atStart => exact ⟨(0), (by first | rfl | (simp; done) | (simp [*]; done)), H', ⟨Nat.le_refl _⟩, ⟨by repeat (first | (with_reducible first | exact HB.out | apply below_alloc | apply pw_below_drewN | apply below_drew1) | exact HB.out)⟩⟩
 case round =>
  clear H'
  try clear p2
  obtain ⟨x9_1, rfl, HA, HK1, HB⟩ := hrel
  cases gk with
  | zero => exact absurd HA.out (by simp [impl_profileOf.l0])
  | succ k1 =>
   have H := HA.out
   clear HA
   simp only [impl_profileOf.l0] at H
   by_cases c3 : x9_1 < (l0.length : Int)
   ·rw [if_pos c3] at H
    have c3b0 : decide (x9_1 < (l0.length : Int)) = true := decide_eq_true c3
    clear c3
    by_cases c4 : 0 ≤ x9_1
    ·rw [if_pos c4] at H
     have c4b0 : decide (0 ≤ x9_1) = true := decide_eq_true c4
     clear c4
     by_cases c5 : x9_1 < (l0.length : Int)
     ·rw [if_pos c5] at H
      have c5b0 : decide (x9_1 < (l0.length : Int)) = true := decide_eq_true c5
      clear c5
      by_cases c6 : ((rd_T52 l0 x9_1).f0).toList = a1.toList
      ·rw [if_pos c6] at H
       have c6b0 : (((rd_T52 l0 x9_1).f0).toList == a1.toList) = true := beq_iff_eq.mpr c6
       have c6b1 : (((rd_T52 l0 x9_1).f0).toList != a1.toList) = false := bne_eq_false_iff_eq.mpr c6
       clear c6
       obtain rfl := Option.some.inj H
       have p211 : 0 ≤ (x9_1 : Int) := of_decide_eq_true (by first | (with_reducible assumption) | assumption)
       have q211 : x9_1 < (l0.length : Int) := of_decide_eq_true (by first | (with_reducible assumption) | assumption)
       obtain ⟨ad211, A211_2, c211_2, e211, hx211_0, hx211_1, hx211_2, hl211_2, hi211_2⟩ := at_T52 HR0.out x9_1 p211 q211
       cases e211
       try (replace hx211_0 := (HB.out.cell (World.block_lt_of_cell? w _ hx211_0)).trans hx211_0)
       try (replace hx211_1 := (HB.out.cell (World.block_lt_of_cell? w _ hx211_1)).trans hx211_1)
       try (replace hx211_2 := (HB.out.cell (World.block_lt_of_cell? w _ hx211_2)).trans hx211_2)
       have HR211_2 := Aside0.mk hi211_2
       have HC211_2 := Aside0.mk hl211_2
       clear hi211_2 hl211_2
       replace p211 := eq_true p211
       replace q211 := eq_true q211
       go_wp2_with (first | ((with_reducible refine gate_dst (N := 6) rfl ?_); refine box_event ?hg (N := 6) ?hd (cs := #[.string (⟨#[]⟩ : ByteArray), .int .i64 0, .slice none 0 0]) (t := 52) ?hr ?_; (case hd => rfl); (case hg => rfl); (case hr => first | (go_simp; done) | (go_simp; rfl)); intro gb212 hg w7 hbox hb; have n0_ := Aside0.mk (below_step qB hb); have n1_ := Aside0.mk (hbox); have n2_ := Aside0.mk ((by rw [hg]; exact (below_size qB) : w.heap.size ≤ gb212)); have n3_ := Aside0.mk ((by rw [hg]; exact (below_size qB) : w.heap.size ≤ gb212)); clear HB; have HB := n0_; have BK212 := n1_; have GW212 := n2_; have GE212 := n3_; clear n0_ n1_ n2_ n3_; clear hb hbox hg; have hcz8_0 : w7.cell? ⟨gb212, 0, none⟩ = some (.string (⟨#[]⟩ : ByteArray)) := (blk_cell BK212.out 0).trans rfl; have hcz8_1 : w7.cell? ⟨gb212, 1, none⟩ = some (.int .i64 0) := (blk_cell BK212.out 1).trans rfl; have hcz8_2 : w7.cell? ⟨gb212, 2, none⟩ = some (.slice none 0 0) := (blk_cell BK212.out 2).trans rfl; have hfz8_0 := blk_frozen BK212.out 0; have hfz8_1 := blk_frozen BK212.out 1; have hfz8_2 := blk_frozen BK212.out 2))
       go_ret
       exact ⟨by first | rfl | (simp [errW_none, errW_some] <;> rfl) | (simp [*, errW_none, errW_some] <;> rfl), by repeat (first | (with_reducible first | exact HB.out | apply below_alloc | apply pw_below_drewN | apply below_drew1 | refine below_set ?_ GE212.out) | exact HB.out)⟩
      ·rw [if_neg c6] at H
       have c6b0 : (((rd_T52 l0 x9_1).f0).toList == a1.toList) = false := beq_eq_false_iff_ne.mpr c6
       have c6b1 : (((rd_T52 l0 x9_1).f0).toList != a1.toList) = true := bne_iff_ne.mpr c6
       have H' := Aside0.mk H
       clear H
       have p211 : 0 ≤ (x9_1 : Int) := of_decide_eq_true (by first | (with_reducible assumption) | assumption)
       have q211 : x9_1 < (l0.length : Int) := of_decide_eq_true (by first | (with_reducible assumption) | assumption)
       obtain ⟨ad211, A211_2, c211_2, e211, hx211_0, hx211_1, hx211_2, hl211_2, hi211_2⟩ := at_T52 HR0.out x9_1 p211 q211
       cases e211
       try (replace hx211_0 := (HB.out.cell (World.block_lt_of_cell? w _ hx211_0)).trans hx211_0)
       try (replace hx211_1 := (HB.out.cell (World.block_lt_of_cell? w _ hx211_1)).trans hx211_1)
       try (replace hx211_2 := (HB.out.cell (World.block_lt_of_cell? w _ hx211_2)).trans hx211_2)
       have HR211_2 := Aside0.mk hi211_2
       have HC211_2 := Aside0.mk hl211_2
       clear hi211_2 hl211_2
       replace p211 := eq_true p211
       replace q211 := eq_true q211
       go_wp2_with (first | ((with_reducible refine gate_dst (N := 6) rfl ?_); refine box_event ?hg (N := 6) ?hd (cs := #[.string (⟨#[]⟩ : ByteArray), .int .i64 0, .slice none 0 0]) (t := 52) ?hr ?_; (case hd => rfl); (case hg => rfl); (case hr => first | (go_simp; done) | (go_simp; rfl)); intro gb212 hg w9 hbox hb; have n0_ := Aside0.mk (below_step qB hb); have n1_ := Aside0.mk (hbox); have n2_ := Aside0.mk ((by rw [hg]; exact (below_size qB) : w.heap.size ≤ gb212)); have n3_ := Aside0.mk ((by rw [hg]; exact (below_size qB) : w.heap.size ≤ gb212)); clear HB; have HB := n0_; have BK212 := n1_; have GW212 := n2_; have GE212 := n3_; clear n0_ n1_ n2_ n3_; clear hb hbox hg; have hcz10_0 : w9.cell? ⟨gb212, 0, none⟩ = some (.string (⟨#[]⟩ : ByteArray)) := (blk_cell BK212.out 0).trans rfl; have hcz10_1 : w9.cell? ⟨gb212, 1, none⟩ = some (.int .i64 0) := (blk_cell BK212.out 1).trans rfl; have hcz10_2 : w9.cell? ⟨gb212, 2, none⟩ = some (.slice none 0 0) := (blk_cell BK212.out 2).trans rfl; have hfz10_0 := blk_frozen BK212.out 0; have hfz10_1 := blk_frozen BK212.out 1; have hfz10_2 := blk_frozen BK212.out 2))
       go_roundg k1
       case measure => have := HK1.out; omega
       case rel => exact ⟨(wrap64 (x9_1 + 1)), (by first | rfl | (simp; done) | (simp [*]; done)), H', ⟨by have := HK1.out; omega⟩, ⟨by repeat (first | (with_reducible first | exact HB.out | apply below_alloc | apply pw_below_drewN | apply below_drew1 | refine below_set ?_ GE212.out) | exact HB.out)⟩⟩
     ·rw [if_neg c5] at H
      exact absurd H (by simp)
    ·rw [if_neg c4] at H
     exact absurd H (by simp)
   ·rw [if_neg c3] at H
    have c3b0 : decide (x9_1 < (l0.length : Int)) = false := decide_eq_false c3
    clear c3
    obtain rfl := Option.some.inj H
    go_wp2
    go_ret
    exact ⟨by first | rfl | (simp [errW_none, errW_some] <;> rfl) | (simp [*, errW_none, errW_some] <;> rfl), by repeat (first | (with_reducible first | exact HB.out | apply below_alloc | apply pw_below_drewN | apply below_drew1) | exact HB.out)⟩

/-! ### impl_current: function 40 -/
def impl_current.l0 : Nat → List (S56) → Int → Int → ByteArray → Int → List (S56) → Option (ByteArray)
 | 0, _, _, _, _, _, _ => none
 | k + 1, x6, x7, x8, x214000, x214001, x214002 => if x8 < x7 then (if 0 ≤ x8 then (if x8 < (x6.length : Int) then (if ((rd_T56 x6 x8).f0) = x214001 then (some ((rd_T56 x6 x8).f1)) else (impl_current.l0 k x6 x7 (wrap64 (x8 + 1)) x214000 x214001 x214002)) else (none)) else (none)) else (some (⟨#[]⟩ : ByteArray))
def impl_current.f (k : Nat) (a0_0 : ByteArray) (a0_1 : Int) (l0_2 : List (S56)) : Option (ByteArray) := impl_current.l0 k l0_2 (l0_2.length : Int) 0 a0_0 a0_1 l0_2
theorem impl_current.mono_l : ∀ k, (∀ y0 y1 y2 y3 y4 y5, LeO (impl_current.l0 k y0 y1 y2 y3 y4 y5) (impl_current.l0 (k + 1) y0 y1 y2 y3 y4 y5))
 | 0 => fun _ _ _ _ _ _ r h => by simp [impl_current.l0] at h
 | k + 1 => by
  have ih0 := impl_current.mono_l k
  ·intro y0 y1 y2 y3 y4 y5
   unfold impl_current.l0
   repeat' first
   | (with_reducible exact ih0 _ _ _ _ _ _)
   | (with_reducible exact LeO.refl _)
   | (with_reducible exact LeO.none _)
   | (with_reducible refine LeO.ite ?_ ?_)
   | (with_reducible refine LeO.bind ?_ (fun _ => ?_))
   | exact ih0 _ _ _ _ _ _
   | exact LeO.none _
   | refine LeO.ite ?_ ?_
   | refine LeO.bind ?_ (fun _ => ?_)
theorem impl_current.mono : ∀ a0 a1 a2 k, LeO (impl_current.f k a0 a1 a2) (impl_current.f (k + 1) a0 a1 a2) := by
 intro a0 a1 a2 k
 have ih0 := impl_current.mono_l k
 unfold impl_current.f
 repeat' first
   | (with_reducible exact ih0 _ _ _ _ _ _)
   | (with_reducible exact LeO.refl _)
   | (with_reducible exact LeO.none _)
   | (with_reducible refine LeO.ite ?_ ?_)
   | (with_reducible refine LeO.bind ?_ (fun _ => ?_))
   | exact ih0 _ _ _ _ _ _
   | exact LeO.none _
   | refine LeO.ite ?_ ?_
   | refine LeO.bind ?_ (fun _ => ?_)
set_option maxHeartbeats 8000000 in
set_option maxRecDepth 100000 in
theorem impl_current.calls (k : Nat) (a0_0 : ByteArray) (a0_1 : Int) (A0_2 : Option Addr) (c0_2 : Nat) (l0_2 : List (S56)) (r : ByteArray) (w : World) (hr0_2 : Kd.C k56 w A0_2 l0_2.length l0_2) (hc0_2 : l0_2.length ≤ c0_2) (h : impl_current.f k a0_0 a0_1 l0_2 = some r) :
  Calls Try.prog 40 #[.agg #[.string a0_0, .int .i64 a0_1, .slice A0_2 l0_2.length c0_2]] w fun e w' => e = .returned (.string r) ∧ Below w.heap.size w w' := by
 have hu52 := Try.underlying52
 have hu56 := Try.underlying56
 have HR0_2 := Aside0.mk hr0_2
 have HC0_2 := Aside0.mk hc0_2
 clear hr0_2 hc0_2
 have HB := Aside0.mk (Below.refl w.heap.size w)
 have H : (impl_current.l0 k l0_2 (l0_2.length : Int) 0 a0_0 a0_1 l0_2) = some r := h
 clear h
 have H' := Aside0.mk H
 clear H
 go_enter Try.func40, Try.ntmps40
 go_wp2_with (first | ((with_reducible refine gate_dst (N := 1) rfl ?_); refine box_event ?hg (N := 1) ?hd (cs := #[.string a0_0, .int .i64 a0_1, .slice A0_2 l0_2.length c0_2]) (t := 52) ?hr ?_; (case hd => rfl); (case hg => rfl); (case hr => first | (go_simp; done) | (go_simp; rfl)); intro gb213 hg w2 hbox hb; have n0_ := Aside0.mk (below_step qB hb); have n1_ := Aside0.mk (hbox); have n2_ := Aside0.mk ((by rw [hg]; exact (below_size qB) : w.heap.size ≤ gb213)); have n3_ := Aside0.mk ((by rw [hg]; exact (below_size qB) : w.heap.size ≤ gb213)); clear HB; have HB := n0_; have BK213 := n1_; have GW213 := n2_; have GE213 := n3_; clear n0_ n1_ n2_ n3_; clear hb hbox hg; have hcz3_0 : w2.cell? ⟨gb213, 0, none⟩ = some (.string a0_0) := (blk_cell BK213.out 0).trans rfl; have hcz3_1 : w2.cell? ⟨gb213, 1, none⟩ = some (.int .i64 a0_1) := (blk_cell BK213.out 1).trans rfl; have hcz3_2 : w2.cell? ⟨gb213, 2, none⟩ = some (.slice A0_2 l0_2.length c0_2) := (blk_cell BK213.out 2).trans rfl; have hfz3_0 := blk_frozen BK213.out 0; have hfz3_1 := blk_frozen BK213.out 1; have hfz3_2 := blk_frozen BK213.out 2))
 go_loopg [8] k (fun kq v8 w' => ∃ (x8_1 : Int), v8 = .int .i64 x8_1 ∧ Aside0 (impl_current.l0 kq l0_2 (l0_2.length : Int) x8_1 a0_0 a0_1 l0_2 = some r) ∧ Aside0 (kq ≤ k) ∧ Aside0 (w'.heap[gb213]? = some (.cells #[.string a0_0, .int .i64 a0_1, (.slice A0_2 l0_2.length c0_2)] 52 (0, 0))) ∧ Aside0 (Below w.heap.size w w'))
 case atStart => exact ⟨(0), (by first | rfl | (simp; done) | (simp [*]; done)), H', ⟨Nat.le_refl _⟩, ⟨by (with_reducible repeat (first | refine blk_drewN ?_ _ | refine blk_drew ?_ | refine blk_alloc ?_ _)); exact BK213.out⟩, ⟨by repeat (first | (with_reducible first | exact HB.out | apply below_alloc | apply pw_below_drewN | apply below_drew1 | refine below_set ?_ GE213.out) | exact HB.out)⟩⟩
 case round =>
  clear H'
  try clear p2
  try clear hcz3_0
  try clear hcz3_1
  try clear hcz3_2
  try clear hfz3_0
  try clear hfz3_1
  try clear hfz3_2
  obtain ⟨x8_1, rfl, HA, HK1, BK213, HB⟩ := hrel
  cases gk with
  | zero => exact absurd HA.out (by simp [impl_current.l0])
  | succ k1 =>
   have H := HA.out
   clear HA
   simp only [impl_current.l0] at H
   by_cases c4 : x8_1 < (l0_2.length : Int)
   ·rw [if_pos c4] at H
    have c4b0 : decide (x8_1 < (l0_2.length : Int)) = true := decide_eq_true c4
    clear c4
    by_cases c5 : 0 ≤ x8_1
    ·rw [if_pos c5] at H
     have c5b0 : decide (0 ≤ x8_1) = true := decide_eq_true c5
     clear c5
     by_cases c6 : x8_1 < (l0_2.length : Int)
     ·rw [if_pos c6] at H
      have c6b0 : decide (x8_1 < (l0_2.length : Int)) = true := decide_eq_true c6
      clear c6
      by_cases c7 : ((rd_T56 l0_2 x8_1).f0) = a0_1
      ·rw [if_pos c7] at H
       have c7b0 : (((rd_T56 l0_2 x8_1).f0) == a0_1) = true := beq_iff_eq.mpr c7
       have c7b1 : (((rd_T56 l0_2 x8_1).f0) != a0_1) = false := bne_eq_false_iff_eq.mpr c7
       clear c7
       obtain rfl := Option.some.inj H
       have p214 : 0 ≤ (x8_1 : Int) := of_decide_eq_true (by first | (with_reducible assumption) | assumption)
       have q214 : x8_1 < (l0_2.length : Int) := of_decide_eq_true (by first | (with_reducible assumption) | assumption)
       obtain ⟨ad214, e214, hx214_0, hx214_1⟩ := at_T56 HR0_2.out x8_1 p214 q214
       cases e214
       try (replace hx214_0 := (HB.out.cell (World.block_lt_of_cell? w _ hx214_0)).trans hx214_0)
       try (replace hx214_1 := (HB.out.cell (World.block_lt_of_cell? w _ hx214_1)).trans hx214_1)
       replace p214 := eq_true p214
       replace q214 := eq_true q214
       go_wp2_with (first | ((with_reducible refine gate_dst (N := 4) rfl ?_); refine box_event ?hg (N := 4) ?hd (cs := #[.int .i64 0, .string (⟨#[]⟩ : ByteArray)]) (t := 56) ?hr ?_; (case hd => rfl); (case hg => rfl); (case hr => first | (go_simp; done) | (go_simp; rfl)); intro gb215 hg w8 hbox hb; have n0_ := Aside0.mk (blk_below (g := gb213) (qK BK213.out) hb); have n1_ := Aside0.mk (below_step (qG GE213.out) hb); have n2_ := Aside0.mk (hbox); have n3_ := Aside0.mk ((by rw [hg]; exact (below_size (qG GE213.out)) : w.heap.size ≤ gb215)); have n4_ := Aside0.mk ((by rw [hg]; exact (below_size (qG GE213.out)) : w.heap.size ≤ gb215)); have n5_ := Aside0.mk ((by rw [hg]; exact Nat.ne_of_lt (blk_lt (g := gb213) (qK BK213.out)) : gb213 ≠ gb215)); have n6_ := Aside0.mk ((by rw [hg]; exact Nat.ne_of_gt (blk_lt (g := gb213) (qK BK213.out)) : gb215 ≠ gb213)); clear BK213; clear HB; have BK213 := n0_; have HB := n1_; have BK215 := n2_; have GW215 := n3_; have GE215 := n4_; have NB213_215 := n5_; have NB215_213 := n6_; clear n0_ n1_ n2_ n3_ n4_ n5_ n6_; clear hb hbox hg; have hnb9 := NB215_213.out; have hnc9 := NB213_215.out; have hcz10_0 : w8.cell? ⟨gb215, 0, none⟩ = some (.int .i64 0) := (blk_cell BK215.out 0).trans rfl; have hcz10_1 : w8.cell? ⟨gb215, 1, none⟩ = some (.string (⟨#[]⟩ : ByteArray)) := (blk_cell BK215.out 1).trans rfl; have hfz10_0 := blk_frozen BK215.out 0; have hfz10_1 := blk_frozen BK215.out 1; have hcz11_0 : w8.cell? ⟨gb213, 0, none⟩ = some (.string a0_0) := (blk_cell BK213.out 0).trans rfl; have hcz11_1 : w8.cell? ⟨gb213, 1, none⟩ = some (.int .i64 a0_1) := (blk_cell BK213.out 1).trans rfl; have hcz11_2 : w8.cell? ⟨gb213, 2, none⟩ = some (.slice (some ad214) l0_2.length c0_2) := (blk_cell BK213.out 2).trans rfl; have hfz11_0 := blk_frozen BK213.out 0; have hfz11_1 := blk_frozen BK213.out 1; have hfz11_2 := blk_frozen BK213.out 2))
       go_ret
       exact ⟨by first | rfl | (simp [errW_none, errW_some] <;> rfl) | (simp [*, errW_none, errW_some] <;> rfl), by repeat (first | (with_reducible first | exact HB.out | apply below_alloc | apply pw_below_drewN | apply below_drew1 | refine below_set ?_ GE213.out | refine below_set ?_ GE215.out) | exact HB.out)⟩
      ·rw [if_neg c7] at H
       have c7b0 : (((rd_T56 l0_2 x8_1).f0) == a0_1) = false := beq_eq_false_iff_ne.mpr c7
       have c7b1 : (((rd_T56 l0_2 x8_1).f0) != a0_1) = true := bne_iff_ne.mpr c7
       have H' := Aside0.mk H
       clear H
       have p214 : 0 ≤ (x8_1 : Int) := of_decide_eq_true (by first | (with_reducible assumption) | assumption)
       have q214 : x8_1 < (l0_2.length : Int) := of_decide_eq_true (by first | (with_reducible assumption) | assumption)
       obtain ⟨ad214, e214, hx214_0, hx214_1⟩ := at_T56 HR0_2.out x8_1 p214 q214
       cases e214
       try (replace hx214_0 := (HB.out.cell (World.block_lt_of_cell? w _ hx214_0)).trans hx214_0)
       try (replace hx214_1 := (HB.out.cell (World.block_lt_of_cell? w _ hx214_1)).trans hx214_1)
       replace p214 := eq_true p214
       replace q214 := eq_true q214
       go_wp2_with (first | ((with_reducible refine gate_dst (N := 4) rfl ?_); refine box_event ?hg (N := 4) ?hd (cs := #[.int .i64 0, .string (⟨#[]⟩ : ByteArray)]) (t := 56) ?hr ?_; (case hd => rfl); (case hg => rfl); (case hr => first | (go_simp; done) | (go_simp; rfl)); intro gb215 hg w12 hbox hb; have n0_ := Aside0.mk (blk_below (g := gb213) (qK BK213.out) hb); have n1_ := Aside0.mk (below_step (qG GE213.out) hb); have n2_ := Aside0.mk (hbox); have n3_ := Aside0.mk ((by rw [hg]; exact (below_size (qG GE213.out)) : w.heap.size ≤ gb215)); have n4_ := Aside0.mk ((by rw [hg]; exact (below_size (qG GE213.out)) : w.heap.size ≤ gb215)); have n5_ := Aside0.mk ((by rw [hg]; exact Nat.ne_of_lt (blk_lt (g := gb213) (qK BK213.out)) : gb213 ≠ gb215)); have n6_ := Aside0.mk ((by rw [hg]; exact Nat.ne_of_gt (blk_lt (g := gb213) (qK BK213.out)) : gb215 ≠ gb213)); clear BK213; clear HB; have BK213 := n0_; have HB := n1_; have BK215 := n2_; have GW215 := n3_; have GE215 := n4_; have NB213_215 := n5_; have NB215_213 := n6_; clear n0_ n1_ n2_ n3_ n4_ n5_ n6_; clear hb hbox hg; have hnb13 := NB215_213.out; have hnc13 := NB213_215.out; have hcz14_0 : w12.cell? ⟨gb215, 0, none⟩ = some (.int .i64 0) := (blk_cell BK215.out 0).trans rfl; have hcz14_1 : w12.cell? ⟨gb215, 1, none⟩ = some (.string (⟨#[]⟩ : ByteArray)) := (blk_cell BK215.out 1).trans rfl; have hfz14_0 := blk_frozen BK215.out 0; have hfz14_1 := blk_frozen BK215.out 1; have hcz15_0 : w12.cell? ⟨gb213, 0, none⟩ = some (.string a0_0) := (blk_cell BK213.out 0).trans rfl; have hcz15_1 : w12.cell? ⟨gb213, 1, none⟩ = some (.int .i64 a0_1) := (blk_cell BK213.out 1).trans rfl; have hcz15_2 : w12.cell? ⟨gb213, 2, none⟩ = some (.slice (some ad214) l0_2.length c0_2) := (blk_cell BK213.out 2).trans rfl; have hfz15_0 := blk_frozen BK213.out 0; have hfz15_1 := blk_frozen BK213.out 1; have hfz15_2 := blk_frozen BK213.out 2))
       go_roundg k1
       case measure => have := HK1.out; omega
       case rel => exact ⟨(wrap64 (x8_1 + 1)), (by first | rfl | (simp; done) | (simp [*]; done)), H', ⟨by have := HK1.out; omega⟩, ⟨by (with_reducible repeat (first | refine blk_drewN ?_ _ | refine blk_drew ?_ | refine blk_alloc ?_ _)); refine blk_far ?_ NB213_215.out _; (with_reducible repeat (first | refine blk_drewN ?_ _ | refine blk_drew ?_ | refine blk_alloc ?_ _)); refine blk_far ?_ NB213_215.out _; (with_reducible repeat (first | refine blk_drewN ?_ _ | refine blk_drew ?_ | refine blk_alloc ?_ _)); exact BK213.out⟩, ⟨by repeat (first | (with_reducible first | exact HB.out | apply below_alloc | apply pw_below_drewN | apply below_drew1 | refine below_set ?_ GE213.out | refine below_set ?_ GE215.out) | exact HB.out)⟩⟩
     ·rw [if_neg c6] at H
      exact absurd H (by simp)
    ·rw [if_neg c5] at H
     exact absurd H (by simp)
   ·rw [if_neg c4] at H
    have c4b0 : decide (x8_1 < (l0_2.length : Int)) = false := decide_eq_false c4
    clear c4
    obtain rfl := Option.some.inj H
    go_wp2
    go_ret
    exact ⟨by first | rfl | (simp [errW_none, errW_some] <;> rfl) | (simp [*, errW_none, errW_some] <;> rfl), by repeat (first | (with_reducible first | exact HB.out | apply below_alloc | apply pw_below_drewN | apply below_drew1 | refine below_set ?_ GE213.out) | exact HB.out)⟩

/-! ### impl_copyProfiles: function 42 -/
def impl_copyProfiles.l0 : Nat → List (S52) → List (S52) → Int → Int → Option ((List (S52)))
 | 0, _, _, _, _ => none
 | k + 1, x3, x7, x8, x9 => if x9 < x8 then (if 0 ≤ x9 then (if x9 < (x7.length : Int) then ((some (([] : List (S56)) : List (S56))).bind fun y221 => (if y221.length + ((rd_T52 x7 x9).f2).length < 5864062014805 then (if x3.length < 2932031007402 then (impl_copyProfiles.l0 k (x3 ++ [(⟨(rd_T52 x7 x9).f0, (rd_T52 x7 x9).f1, (y221 ++ ((rd_T52 x7 x9).f2))⟩ : S52)]) x7 x8 (wrap64 (x9 + 1))) else (none)) else (none))) else (none)) else (none)) else (some x3)
def impl_copyProfiles.f (k : Nat) (l0 : List (S52)) : Option ((List (S52))) := impl_copyProfiles.l0 k (([] : List (S52))) l0 (l0.length : Int) 0
theorem impl_copyProfiles.mono_l : ∀ k, (∀ y0 y1 y2 y3, LeO (impl_copyProfiles.l0 k y0 y1 y2 y3) (impl_copyProfiles.l0 (k + 1) y0 y1 y2 y3))
 | 0 => fun _ _ _ _ r h => by simp [impl_copyProfiles.l0] at h
 | k + 1 => by
  have ih0 := impl_copyProfiles.mono_l k
  ·intro y0 y1 y2 y3
   unfold impl_copyProfiles.l0
   repeat' first
   | (with_reducible exact ih0 _ _ _ _)
   | (with_reducible exact LeO.refl _)
   | (with_reducible exact LeO.none _)
   | (with_reducible refine LeO.ite ?_ ?_)
   | (with_reducible refine LeO.bind ?_ (fun _ => ?_))
   | exact ih0 _ _ _ _
   | exact LeO.none _
   | refine LeO.ite ?_ ?_
   | refine LeO.bind ?_ (fun _ => ?_)
theorem impl_copyProfiles.mono : ∀ a0 k, LeO (impl_copyProfiles.f k a0) (impl_copyProfiles.f (k + 1) a0) := by
 intro a0 k
 have ih0 := impl_copyProfiles.mono_l k
 unfold impl_copyProfiles.f
 repeat' first
   | (with_reducible exact ih0 _ _ _ _)
   | (with_reducible exact LeO.refl _)
   | (with_reducible exact LeO.none _)
   | (with_reducible refine LeO.ite ?_ ?_)
   | (with_reducible refine LeO.bind ?_ (fun _ => ?_))
   | exact ih0 _ _ _ _
   | exact LeO.none _
   | refine LeO.ite ?_ ?_
   | refine LeO.bind ?_ (fun _ => ?_)
set_option maxHeartbeats 8000000 in
set_option maxRecDepth 100000 in
theorem impl_copyProfiles.calls (k : Nat) (A0 : Option Addr) (c0 : Nat) (l0 : List (S52)) (r : List (S52)) (w : World) (hr0 : Kd.C k52 w A0 l0.length l0) (hc0 : l0.length ≤ c0) (h : impl_copyProfiles.f k l0 = some r) :
  Calls Try.prog 42 #[.slice A0 l0.length c0] w fun e w' => ∃ v0_ : Value, e = .returned (v0_) ∧ Kd.S k52 52 w' w.heap.size (fun _ => True) v0_ r ∧ Below w.heap.size w w' := by
 have hu52 := Try.underlying52
 have HR0 := Aside0.mk hr0
 have HC0 := Aside0.mk hc0
 clear hr0 hc0
 have HB := Aside0.mk (Below.refl w.heap.size w)
 have H : (impl_copyProfiles.l0 k (([] : List (S52))) l0 (l0.length : Int) 0) = some r := h
 clear h
 obtain ⟨y216, hy216⟩ : ∃ y_ : List (S52), y_ = (([] : List (S52))) := ⟨_, rfl⟩
 replace H : (impl_copyProfiles.l0 k y216 l0 (l0.length : Int) 0) = some r := by first | (rw [hy216]; with_reducible exact H) | (have H2_ := (Option.bind_some _ _).symm.trans H; rw [hy216]; with_reducible exact H2_) | (have H2_ := (Option.bind_some _ _).symm.trans H; with_reducible exact H2_) | with_reducible exact H | (rw [hy216]; exact H) | exact H
 have Ny216 := Aside0.mk hy216
 clear hy216
 have H' := Aside0.mk H
 clear H
 go_enter Try.func42, Try.ntmps42
 go_wp2_with (first | ((with_reducible refine gate_dst (N := 6) rfl ?_); refine Kd.S_lit k52 _ 52 ?hg (N := 6) ?hd (xs := ([] : List (S52))) (inner := []) (ok := fun _ => True) (okp := fun _ => True) ?hr ?hp (fun _ hk => hk) trivial (Below.refl _ _) (Nat.le_refl _) (by simp) ?_; (case hd => rfl); (case hg => rfl); (case hr => first | (go_simp; done) | (go_simp; rfl)); (case hp => exact (Reps.none _ _)); intro v217 w2 ho3 hb hg_ hnew_; clear hg_ hnew_; (first | rw [← Ny216.out] at ho3 | (simp only [Int.reduceToNat] at ho3; rw [← Ny216.out] at ho3)); have n0_ := Aside0.mk (Kd.S_lower ho3 (below_size qB)); have n1_ := Aside0.mk (below_step qB hb); clear HB; have HO218 := n0_; have HB := n1_; clear n0_ n1_; clear hb ho3))
 go_loopg [3, 9] k (fun kq v3 v9 w' => ∃ (x3_1 : List (S52)) (x9_1 : Int), v9 = .int .i64 x9_1 ∧ Aside0 (impl_copyProfiles.l0 kq x3_1 l0 (l0.length : Int) x9_1 = some r) ∧ Aside0 (kq ≤ k) ∧ Aside0 (Kd.S k52 52 w' w.heap.size (fun _ => True) v3 x3_1) ∧ Aside0 (Below w.heap.size w w'))
 case atStart => exact ⟨(y216), (0), (by first | rfl | (simp; done) | (simp [*]; done)), H', ⟨Nat.le_refl _⟩, ⟨by (with_reducible repeat (first | apply Kd.S_alloc | apply Kd.S_drewN | apply Kd.S_drew)); exact HO218.out⟩, ⟨by repeat (first | (with_reducible first | exact HB.out | apply below_alloc | apply pw_below_drewN | apply below_drew1) | exact HB.out)⟩⟩
 case round =>
  clear H'
  try clear p2
  obtain ⟨x3_1, x9_1, rfl, HA, HK1, HO_3, HB⟩ := hrel
  cases gk with
  | zero => exact absurd HA.out (by simp [impl_copyProfiles.l0])
  | succ k1 =>
   have H := HA.out
   clear HA
   simp only [impl_copyProfiles.l0] at H
   by_cases c4 : x9_1 < (l0.length : Int)
   ·rw [if_pos c4] at H
    have c4b0 : decide (x9_1 < (l0.length : Int)) = true := decide_eq_true c4
    clear c4
    by_cases c5 : 0 ≤ x9_1
    ·rw [if_pos c5] at H
     have c5b0 : decide (0 ≤ x9_1) = true := decide_eq_true c5
     clear c5
     by_cases c6 : x9_1 < (l0.length : Int)
     ·rw [if_pos c6] at H
      have c6b0 : decide (x9_1 < (l0.length : Int)) = true := decide_eq_true c6
      clear c6
      obtain ⟨y221, hy221⟩ : ∃ y_ : List (S56), y_ = (([] : List (S56))) := ⟨_, rfl⟩
      replace H : (if y221.length + ((rd_T52 l0 x9_1).f2).length < 5864062014805 then (if x3_1.length < 2932031007402 then (impl_copyProfiles.l0 k1 (x3_1 ++ [(⟨(rd_T52 l0 x9_1).f0, (rd_T52 l0 x9_1).f1, (y221 ++ ((rd_T52 l0 x9_1).f2))⟩ : S52)]) l0 (l0.length : Int) (wrap64 (x9_1 + 1))) else (none)) else (none)) = some r := by first | (rw [hy221]; with_reducible exact H) | (have H2_ := (Option.bind_some _ _).symm.trans H; rw [hy221]; with_reducible exact H2_) | (have H2_ := (Option.bind_some _ _).symm.trans H; with_reducible exact H2_) | with_reducible exact H | (rw [hy221]; exact H) | exact H
      have Ny221 := Aside0.mk hy221
      clear hy221
      by_cases c7 : y221.length + ((rd_T52 l0 x9_1).f2).length < 5864062014805
      ·rw [if_pos c7] at H
       have LMc7 := Aside0.mk c7
       clear c7
       obtain ⟨y224, hy224⟩ : ∃ y_ : List (S56), y_ = (y221 ++ ((rd_T52 l0 x9_1).f2)) := ⟨_, rfl⟩
       replace H : (if x3_1.length < 2932031007402 then (impl_copyProfiles.l0 k1 (x3_1 ++ [(⟨(rd_T52 l0 x9_1).f0, (rd_T52 l0 x9_1).f1, y224⟩ : S52)]) l0 (l0.length : Int) (wrap64 (x9_1 + 1))) else (none)) = some r := by first | (rw [hy224]; with_reducible exact H) | (have H2_ := (Option.bind_some _ _).symm.trans H; rw [hy224]; with_reducible exact H2_) | (have H2_ := (Option.bind_some _ _).symm.trans H; with_reducible exact H2_) | with_reducible exact H | (rw [hy224]; exact H) | exact H
       have Ny224 := Aside0.mk hy224
       clear hy224
       by_cases c8 : x3_1.length < 2932031007402
       ·rw [if_pos c8] at H
        have LMc8 := Aside0.mk c8
        clear c8
        obtain ⟨y227, hy227⟩ : ∃ y_ : List (S52), y_ = (x3_1 ++ [(⟨(rd_T52 l0 x9_1).f0, (rd_T52 l0 x9_1).f1, y224⟩ : S52)]) := ⟨_, rfl⟩
        replace H : (impl_copyProfiles.l0 k1 y227 l0 (l0.length : Int) (wrap64 (x9_1 + 1))) = some r := by first | (rw [hy227]; with_reducible exact H) | (have H2_ := (Option.bind_some _ _).symm.trans H; rw [hy227]; with_reducible exact H2_) | (have H2_ := (Option.bind_some _ _).symm.trans H; with_reducible exact H2_) | with_reducible exact H | (rw [hy227]; exact H) | exact H
        have Ny227 := Aside0.mk hy227
        clear hy227
        have H' := Aside0.mk H
        clear H
        have p219 : 0 ≤ (x9_1 : Int) := of_decide_eq_true (by first | (with_reducible assumption) | assumption)
        have q219 : x9_1 < (l0.length : Int) := of_decide_eq_true (by first | (with_reducible assumption) | assumption)
        obtain ⟨ad219, A219_2, c219_2, e219, hx219_0, hx219_1, hx219_2, hl219_2, hi219_2⟩ := at_T52 HR0.out x9_1 p219 q219
        cases e219
        try (replace hx219_0 := (HB.out.cell (World.block_lt_of_cell? w _ hx219_0)).trans hx219_0)
        try (replace hx219_1 := (HB.out.cell (World.block_lt_of_cell? w _ hx219_1)).trans hx219_1)
        try (replace hx219_2 := (HB.out.cell (World.block_lt_of_cell? w _ hx219_2)).trans hx219_2)
        have HR219_2 := Aside0.mk hi219_2
        have HC219_2 := Aside0.mk hl219_2
        clear hi219_2 hl219_2
        replace p219 := eq_true p219
        replace q219 := eq_true q219
        go_wp2_with (first | ((with_reducible refine gate_dst (N := 5) rfl ?_); refine box_event ?hg (N := 5) ?hd (cs := #[.string (⟨#[]⟩ : ByteArray), .int .i64 0, .slice none 0 0]) (t := 52) ?hr ?_; (case hd => rfl); (case hg => rfl); (case hr => first | (go_simp; done) | (go_simp; rfl) | (obtain ⟨_, _, e_⟩ := Kd.R_slice HO226.out; subst e_; first | (go_simp; done) | (go_simp; rfl))); intro gb220 hg w9 hbox hb; have n0_ := Aside0.mk (Kd.S_below (Kd.S_elderB (by (with_reducible repeat (first | apply Kd.S_alloc | apply Kd.S_drewN | apply Kd.S_drew)); exact HO_3.out) gb220 (Nat.le_of_eq hg.symm)) hb); have n1_ := Aside0.mk (below_step qB hb); have n2_ := Aside0.mk (hbox); have n3_ := Aside0.mk ((by rw [hg]; exact (below_size qB) : w.heap.size ≤ gb220)); have n4_ := Aside0.mk ((by rw [hg]; exact (below_size qB) : w.heap.size ≤ gb220)); clear HO_3; clear HB; have HO_3 := n0_; have HB := n1_; have BK220 := n2_; have GW220 := n3_; have GE220 := n4_; clear n0_ n1_ n2_ n3_ n4_; clear hb hbox hg; have hcz10_0 : w9.cell? ⟨gb220, 0, none⟩ = some (.string (⟨#[]⟩ : ByteArray)) := (blk_cell BK220.out 0).trans rfl; have hcz10_1 : w9.cell? ⟨gb220, 1, none⟩ = some (.int .i64 0) := (blk_cell BK220.out 1).trans rfl; have hcz10_2 : w9.cell? ⟨gb220, 2, none⟩ = some (.slice none 0 0) := (blk_cell BK220.out 2).trans rfl; have hfz10_0 := blk_frozen BK220.out 0; have hfz10_1 := blk_frozen BK220.out 1; have hfz10_2 := blk_frozen BK220.out 2) | ((with_reducible refine gate_dst (N := 13) rfl ?_); refine Kd.R_lit k56 _ 56 ?hg (N := 13) ?hd (xs := ([] : List (S56))) (inner := []) (ok := fun _ => True) (okp := fun _ => True) ?hr ?hp (fun _ hk => hk) trivial (Below.refl _ _) (Nat.le_refl _) (by simp) ?_; (case hd => rfl); (case hg => rfl); (case hr => first | (go_simp; done) | (go_simp; rfl) | (obtain ⟨_, _, e_⟩ := Kd.R_slice HO226.out; subst e_; first | (go_simp; done) | (go_simp; rfl))); (case hp => exact (Reps.none _ _)); intro v222 w11 ho12 hb hg_ hnew_; clear hg_ hnew_; (first | rw [← Ny221.out] at ho12 | (simp only [Int.reduceToNat] at ho12; rw [← Ny221.out] at ho12)); have n0_ := Aside0.mk (Kd.S_elder' (by (with_reducible repeat (first | apply Kd.S_alloc | apply Kd.S_drewN | apply Kd.S_drew)); exact (Kd.S_mono (Kd.S_far (p := ⟨gb220, 2, none⟩) (Kd.S_far (p := ⟨gb220, 1, none⟩) (Kd.S_far (p := ⟨gb220, 0, none⟩) (Kd.S_mono HO_3.out (fun k_ hk => (⟨hk, hk.2⟩ : _ ∧ k_ ≠ gb220))) (fun _ hk => hk.2) (.string ((rd_T52 l0 x9_1).f0))) (fun _ hk => hk.2) (.int .i64 ((rd_T52 l0 x9_1).f1))) (fun _ hk => hk.2) (.slice A219_2 ((rd_T52 l0 x9_1).f2).length c219_2)) (fun _ h_ => h_.1))) (Kd.R_base ho12) hb); have n1_ := Aside0.mk (Kd.R_lower ho12 (below_size (qG GE220.out))); have n2_ := Aside0.mk (blk_below (g := gb220) (o := .cells #[.string ((rd_T52 l0 x9_1).f0), .int .i64 ((rd_T52 l0 x9_1).f1), .slice A219_2 ((rd_T52 l0 x9_1).f2).length c219_2] 52 (0, 0)) (by (with_reducible repeat (first | refine blk_drewN ?_ _ | refine blk_drew ?_ | refine blk_alloc ?_ _)); refine blk_put (cs := #[.string ((rd_T52 l0 x9_1).f0), .int .i64 ((rd_T52 l0 x9_1).f1), .slice none 0 0]) ?_ 2 _ rfl; (with_reducible repeat (first | refine blk_drewN ?_ _ | refine blk_drew ?_ | refine blk_alloc ?_ _)); refine blk_put (cs := #[.string ((rd_T52 l0 x9_1).f0), .int .i64 0, .slice none 0 0]) ?_ 1 _ rfl; (with_reducible repeat (first | refine blk_drewN ?_ _ | refine blk_drew ?_ | refine blk_alloc ?_ _)); refine blk_put (cs := #[.string (⟨#[]⟩ : ByteArray), .int .i64 0, .slice none 0 0]) ?_ 0 _ rfl; (with_reducible repeat (first | refine blk_drewN ?_ _ | refine blk_drew ?_ | refine blk_alloc ?_ _)); exact BK220.out) hb); have n3_ := Aside0.mk (below_step (qG GE220.out) hb); clear HO_3; clear BK220; clear HB; have HO_3 := n0_; have HO223 := n1_; have BK220 := n2_; have HB := n3_; clear n0_ n1_ n2_ n3_; clear hb ho12; have hcz13_0 : w11.cell? ⟨gb220, 0, none⟩ = some (.string ((rd_T52 l0 x9_1).f0)) := (blk_cell BK220.out 0).trans rfl; have hcz13_1 : w11.cell? ⟨gb220, 1, none⟩ = some (.int .i64 ((rd_T52 l0 x9_1).f1)) := (blk_cell BK220.out 1).trans rfl; have hcz13_2 : w11.cell? ⟨gb220, 2, none⟩ = some (.slice A219_2 ((rd_T52 l0 x9_1).f2).length c219_2) := (blk_cell BK220.out 2).trans rfl; have hfz13_0 := blk_frozen BK220.out 0; have hfz13_1 := blk_frozen BK220.out 1; have hfz13_2 := blk_frozen BK220.out 2) | ((with_reducible refine gate_builtin (b := .append) (xs := #[.tmp 13, .tmp 15]) rfl ?_); at_builtin; refine Kd.R_append_rows k56 (w0 := w) w.heap.size rfl (.tmp 13) (.tmp 15) 50 56 (.agg #[(.int .i64 0), (.string ⟨#[]⟩)]) 24 rfl Try.underlying50 info56 rfl (by decide) (by omega) v222 y221 ((rd_T52 l0 x9_1).f2) _ _ _ (fun _ => True) (fun _ => False) rfl rfl ?aO ?aR (fun _ _ h => h) (fun _ h => h.elim) ?aF ?aB ?aS ?aL ?_; (case aR => repeat (first | exact (Kd.C_below HR219_2.out HB.out) | (with_reducible refine Kd.C_alloc ?_ _) | (with_reducible refine Kd.C_drewN ?_ _) | (with_reducible refine Kd.C_drew ?_))); (case aB => exact (qG GE220.out)); (case aF => exact (fun _ _ => trivial)); (case aO => exact (by (with_reducible repeat (first | apply Kd.R_alloc | apply Kd.R_drewN | apply Kd.R_drew)); exact HO223.out)); (case aS => exact (below_size (qG GE220.out))); (case aL => have := LMc7.out; omega); intro v225 w14 ho hb hg hat; rw [← Ny224.out] at ho; have n0_ := Aside0.mk (Kd.S_after (ok := (fun k_ => k_ ≠ gb220)) (by (with_reducible repeat (first | apply Kd.S_alloc | apply Kd.S_drewN | apply Kd.S_drew)); exact Kd.S_mono HO_3.out (fun _ hk => ⟨hk.1.2, hk.2⟩)) hg hat); have n1_ := Aside0.mk (blk_grown (g := gb220) (qK BK220.out) hg (Kd.R_ne HO223.out BK220.out (by decide))); have n2_ := Aside0.mk (hb); have n3_ := Aside0.mk (ho); clear HO_3; clear BK220; clear HB; clear HO223; have HO_3 := n0_; have BK220 := n1_; have HB := n2_; have HO226 := n3_; clear n0_ n1_ n2_ n3_; clear ho hb hg hat; obtain ⟨Ao15, co15, eo15⟩ := Kd.R_slice HO226.out; subst eo15; have hcz16_0 : w14.cell? ⟨gb220, 0, none⟩ = some (.string ((rd_T52 l0 x9_1).f0)) := (blk_cell BK220.out 0).trans rfl; have hcz16_1 : w14.cell? ⟨gb220, 1, none⟩ = some (.int .i64 ((rd_T52 l0 x9_1).f1)) := (blk_cell BK220.out 1).trans rfl; have hcz16_2 : w14.cell? ⟨gb220, 2, none⟩ = some (.slice A219_2 ((rd_T52 l0 x9_1).f2).length c219_2) := (blk_cell BK220.out 2).trans rfl; have hfz16_0 := blk_frozen BK220.out 0; have hfz16_1 := blk_frozen BK220.out 1; have hfz16_2 := blk_frozen BK220.out 2) | ((with_reducible refine gate_store (t := 50) (p := 17) rfl ?_); refine store_event (t := 50) (p := 17) (v := ?vo_w17) (w1 := (w14.setCell ⟨gb220, 2, none⟩ (.slice Ao15 y224.length co15))) ?hg ?ho ?hn ?hr ?_; (case ho => rfl); (case hg => rfl); (case hn => rfl); (case hr => first | (go_simp; done) | (go_simp; rfl) | (obtain ⟨_, _, e_⟩ := Kd.R_slice HO226.out; subst e_; first | (go_simp; done) | (go_simp; rfl))); intro w17 hw; have n0_ : Aside0 (Kd.S k52 52 w17 w.heap.size (fun k_ => some k_ ≠ (.slice Ao15 y224.length co15 : Value).ownBlock ∧ k_ ≠ gb220) u3 x3_1) := ⟨(by rw [hw]; exact (by (with_reducible repeat (first | apply Kd.S_alloc | apply Kd.S_drewN | apply Kd.S_drew)); exact Kd.S_mono (Kd.S_far (p := ⟨gb220, 2, none⟩) (Kd.S_mono HO_3.out (fun k_ hk => (⟨hk, hk.1⟩ : _ ∧ k_ ≠ gb220))) (fun _ hk => hk.2) (.slice Ao15 y224.length co15)) (fun _ hk => ⟨hk.1.2, hk.1.1⟩)))⟩; have n1_ : Aside0 (Kd.R k56 56 w17 w.heap.size (fun _ => True) (.slice Ao15 y224.length co15) y224) := ⟨(by rw [hw]; exact (by (with_reducible repeat (first | apply Kd.R_alloc | apply Kd.R_drewN | apply Kd.R_drew)); exact Kd.R_mono (Kd.R_far (p := ⟨gb220, 2, none⟩) (Kd.R_types HO226.out BK220.out (by decide)) (fun _ hk => hk.2) (.slice Ao15 y224.length co15)) (fun _ hk => trivial)))⟩; have n2_ : Aside0 (w17.heap[gb220]? = some (.cells #[.string ((rd_T52 l0 x9_1).f0), .int .i64 ((rd_T52 l0 x9_1).f1), .slice Ao15 y224.length co15] 52 (0, 0))) := ⟨(by rw [hw]; exact (by (with_reducible repeat (first | refine blk_drewN ?_ _ | refine blk_drew ?_ | refine blk_alloc ?_ _)); refine blk_put (cs := #[.string ((rd_T52 l0 x9_1).f0), .int .i64 ((rd_T52 l0 x9_1).f1), .slice A219_2 ((rd_T52 l0 x9_1).f2).length c219_2]) ?_ 2 _ rfl; (with_reducible repeat (first | refine blk_drewN ?_ _ | refine blk_drew ?_ | refine blk_alloc ?_ _)); exact BK220.out))⟩; have n3_ : Aside0 (Below w.heap.size w w17) := ⟨(by rw [hw]; exact (qG GE220.out))⟩; clear hw; clear HO_3; clear HO226; clear BK220; clear HB; have HO_3 := n0_; have HO226 := n1_; have BK220 := n2_; have HB := n3_; clear n0_ n1_ n2_ n3_; have hcz18_0 : w17.cell? ⟨gb220, 0, none⟩ = some (.string ((rd_T52 l0 x9_1).f0)) := (blk_cell BK220.out 0).trans rfl; have hcz18_1 : w17.cell? ⟨gb220, 1, none⟩ = some (.int .i64 ((rd_T52 l0 x9_1).f1)) := (blk_cell BK220.out 1).trans rfl; have hcz18_2 : w17.cell? ⟨gb220, 2, none⟩ = some (.slice Ao15 y224.length co15) := (blk_cell BK220.out 2).trans rfl; have hfz18_0 := blk_frozen BK220.out 0; have hfz18_1 := blk_frozen BK220.out 1; have hfz18_2 := blk_frozen BK220.out 2) | ((with_reducible refine gate_builtin (b := .append) (xs := #[.tmp 18, .tmp 20]) rfl ?_); at_builtin; refine Kd.S_append k52 (w0 := w) w.heap.size rfl (.tmp 18) (.tmp 20) 25 52 (.agg #[(.string ⟨#[]⟩), (.int .i64 0), (.slice none 0 0)]) 48 rfl Try.underlying25 info52 rfl (by decide) (by omega) u3 x3_1 (⟨(rd_T52 l0 x9_1).f0, (rd_T52 l0 x9_1).f1, y224⟩ : S52) [.string ((rd_T52 l0 x9_1).f0), .int .i64 ((rd_T52 l0 x9_1).f1), .slice Ao15 y224.length co15] (fun k_ => k_ ≠ gb220) (fun k_ => some k_ = (.slice Ao15 y224.length co15 : Value).ownBlock) rfl rfl ?aP (fun k_ hk_ => ((Kd.R_mono (ok' := fun k_ => ((fun k_ => k_ ≠ gb220)) k_ ∧ some k_ ≠ (u3 : Value).ownBlock) (Kd.R_types (Kd.R_apart' (HO226.out) (Kd.S_typed HO_3.out) (by decide)) BK220.out (by decide)) (fun k_ hk => ⟨hk.2, hk.1.2⟩))).1 k_ hk_.symm) ?aF ?aO ?aB ?aS ?aL ?_; (case aP => exact k52_mkM _ _ _ (⟨(rd_T52 l0 x9_1).f0, (rd_T52 l0 x9_1).f1, y224⟩ : S52) (Kd.R_mono (Kd.R_tight rfl (Kd.R_mono (ok' := fun k_ => ((fun k_ => k_ ≠ gb220)) k_ ∧ some k_ ≠ (u3 : Value).ownBlock) (Kd.R_types (Kd.R_apart' (HO226.out) (Kd.S_typed HO_3.out) (by decide)) BK220.out (by decide)) (fun k_ hk => ⟨hk.2, hk.1.2⟩))) (fun _ h_ => h_))); (case aB => exact (qG GE220.out)); (case aF => exact (fun k_ hk => Kd.freshB (g := gb220) (qK BK220.out) k_ hk)); (case aO => exact (by (with_reducible repeat (first | apply Kd.S_alloc | apply Kd.S_drewN | apply Kd.S_drew)); exact Kd.S_mono HO_3.out (fun k_ hk => ⟨hk.2, fun e_ => hk.1 e_⟩))); (case aS => exact (below_size (qG GE220.out))); (case aL => have := LMc8.out; omega); intro v228 w19 ho hb hg hat; rw [← Ny227.out] at ho; have n0_ := Aside0.mk (blk_grown (g := gb220) (qK BK220.out) hg (Kd.S_away HO_3.out (fun _ hk => hk.2))); have n1_ := Aside0.mk (hb); have n2_ := Aside0.mk (ho); clear BK220; clear HB; clear HO_3; clear HO226; have BK220 := n0_; have HB := n1_; have HO229 := n2_; clear n0_ n1_ n2_; clear ho hb hg hat))
        go_roundg k1
        case measure => have := HK1.out; omega
        case rel => exact ⟨(y227), (wrap64 (x9_1 + 1)), (by first | rfl | (simp; done) | (simp [*]; done)), H', ⟨by have := HK1.out; omega⟩, ⟨by (with_reducible repeat (first | apply Kd.S_alloc | apply Kd.S_drewN | apply Kd.S_drew)); exact Kd.S_mono HO229.out (fun _ hk => trivial)⟩, ⟨by repeat (first | (with_reducible first | exact HB.out | apply below_alloc | apply pw_below_drewN | apply below_drew1 | refine below_set ?_ GE220.out) | exact HB.out)⟩⟩
       ·rw [if_neg c8] at H
        exact absurd H (by simp)
      ·rw [if_neg c7] at H
       exact absurd H (by simp)
     ·rw [if_neg c6] at H
      exact absurd H (by simp)
    ·rw [if_neg c5] at H
     exact absurd H (by simp)
   ·rw [if_neg c4] at H
    have c4b0 : decide (x9_1 < (l0.length : Int)) = false := decide_eq_false c4
    clear c4
    obtain rfl := Option.some.inj H
    go_wp2
    go_ret
    exact ⟨_, by first | rfl | (simp [errW_none, errW_some] <;> rfl) | (simp [*, errW_none, errW_some] <;> rfl), by (with_reducible repeat (first | apply Kd.S_alloc | apply Kd.S_drewN | apply Kd.S_drew)); exact HO_3.out, by repeat (first | (with_reducible first | exact HB.out | apply below_alloc | apply pw_below_drewN | apply below_drew1) | exact HB.out)⟩

end Go.Proofs.Ytbgnjnlecpdfaaa.PFnExactSwitch
