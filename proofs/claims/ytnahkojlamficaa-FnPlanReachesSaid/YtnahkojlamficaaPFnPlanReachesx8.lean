-- Laid by a program of this session: a turned copy of the kit's print, with contracts by hand beside.
import Derived.Test.YtnahkojlamficaaPFnPlanReachesx0
namespace Go.Proofs.Ytnahkojlamficaa.PFnPlanReaches
open Go.RowKit Go.Proofs.YtnahkojlamficaaW.PrintWords Go.Proofs.YtnahkojlamficaaW.PrintLast Go.Proofs.YtnahkojlamficaaW.PrintMore
theorem zi0 {X : Prop} (h : X := by first | rfl | (simp; done) | (simp [*]; done)) : X := h
theorem zi1 {X : Prop} (h : X := by repeat (first | (with_reducible first | exact HB.out | apply below_alloc | apply pw_below_drewN | apply below_drew1) | exact HB.out)) : X := h
theorem zi2 {X : Prop} (h : X := by first | (with_reducible assumption) | assumption) : X := h
theorem zi3 {X : Prop} (h : X := by first | rfl | (simp [errW_none, errW_some] <;> rfl) | (simp [*, errW_none, errW_some] <;> rfl)) : X := h
theorem zi4 {X : Prop} (h : X := by repeat (first | (with_reducible first | exact HB.out | apply below_alloc | apply pw_below_drewN | apply below_drew1 | refine below_set ?_ GE208.out) | exact HB.out)) : X := h
theorem zi5 {X : Prop} (h : X := by have := hj.out.1; have := h0'.out; omega) : X := h
theorem zi6 {X : Prop} (h : X := by have := hj.out.2.2.1; have := hlt'.out; omega) : X := h
theorem zi7 {X : Prop} (h : X := by have := hk.out.1; have := HN.out; have := hlt'.out; unfold wrap64; omega) : X := h
theorem zi8 {X : Prop} (h : X := by (with_reducible repeat (first | apply Kd.R_alloc | apply Kd.R_drewN | apply Kd.R_drew)); exact HQ.out) : X := h
theorem zi9 {A0 X : Prop} (a0 : A0) (h : A0 → X := by intro a0_; (with_reducible repeat (first | apply Kd.R_alloc | apply Kd.R_drewN | apply Kd.R_drew)); exact a0_) : X := h a0
theorem zi10 {X : Prop} (h : X := by (with_reducible repeat (first | refine blk_drewN ?_ _ | refine blk_drew ?_ | refine blk_alloc ?_ _)); exact BK209.out) : X := h
theorem zi11 {X : Prop} (h : X := by repeat (first | (with_reducible first | exact HB.out | apply below_alloc | apply pw_below_drewN | apply below_drew1 | refine below_set ?_ GE209.out) | exact HB.out)) : X := h
theorem zi12 {X : Prop} (h : X := by (try simp only [List.map_toArray, List.map_cons, List.map_nil]); first | done | rfl | (simp only [List.length_drop, List.length_take]; rfl)) : X := h
theorem zi13 {X : Prop} (h : X := by repeat (first | exact (Kd.C_below HR0.out HB.out) | (with_reducible refine Kd.C_alloc ?_ _) | (with_reducible refine Kd.C_drewN ?_ _) | (with_reducible refine Kd.C_drew ?_))) : X := h
attribute [local go_sem] max2_int min2_int max_two min_two max_three min_three max_four min_four   -- for this text's walks alone
set_option linter.unusedVariables false
set_option linter.unusedSimpArgs false

/-! ### impl_unitOf: function 62 -/
def impl_unitOf.l0 : Nat → ByteArray → List (S55) → Int → Int → Option (Int)
 | 0, _, _, _, _ => none
 | k + 1, x1, x7, x8, x9 => if x9 < x8 then (if 0 ≤ x9 then (if x9 < (x7.length : Int) then (if ((rd_T55 x7 x9).f0).toList = x1.toList then (some x9) else (impl_unitOf.l0 k x1 x7 x8 (wrap64 (x9 + 1)))) else (none)) else (none)) else (some (-1))
def impl_unitOf.f (k : Nat) (l0 : List (S55)) (a1 : ByteArray) : Option (Int) := impl_unitOf.l0 k a1 l0 (l0.length : Int) 0
theorem impl_unitOf.mono_l : ∀ k, (∀ y0 y1 y2 y3, LeO (impl_unitOf.l0 k y0 y1 y2 y3) (impl_unitOf.l0 (k + 1) y0 y1 y2 y3))
 | 0 => fun _ _ _ _ r h => by simp [impl_unitOf.l0] at h
 | k + 1 => by
  have ih0 := impl_unitOf.mono_l k
  ·intro y0 y1 y2 y3; unfold impl_unitOf.l0
   repeat' first
   | (with_reducible exact ih0 _ _ _ _)
   | (with_reducible exact LeO.refl _)
   | (with_reducible exact LeO.none _)
   | (with_reducible refine LeO.ite ?_ ?_)
   | (with_reducible refine LeO.bind ?_ (fun _ => ?_))
   | exact ih0 _ _ _ _
   | exact LeO.none _
   | refine LeO.ite ?_ ?_
   | refine LeO.bind ?_ (fun _ => ?_)
theorem impl_unitOf.mono : ∀ a0 a1 k, LeO (impl_unitOf.f k a0 a1) (impl_unitOf.f (k + 1) a0 a1) := by
 intro a0 a1 k; have ih0 := impl_unitOf.mono_l k; unfold impl_unitOf.f
 repeat' first
   | (with_reducible exact ih0 _ _ _ _)
   | (with_reducible exact LeO.refl _)
   | (with_reducible exact LeO.none _)
   | (with_reducible refine LeO.ite ?_ ?_)
   | (with_reducible refine LeO.bind ?_ (fun _ => ?_))
   | exact ih0 _ _ _ _
   | exact LeO.none _
   | refine LeO.ite ?_ ?_
   | refine LeO.bind ?_ (fun _ => ?_)
set_option maxHeartbeats 8000000 in
set_option maxRecDepth 100000 in
theorem impl_unitOf.calls (k : Nat) (A0 : Option Addr) (c0 : Nat) (l0 : List (S55)) (a1 : ByteArray) (r : Int) (w : World) (hr0 : Kd.C k55 w A0 l0.length l0) (hc0 : l0.length ≤ c0) (h : impl_unitOf.f k l0 a1 = some r) :
  Calls Try.prog 62 #[.slice A0 l0.length c0, .string a1] w fun e w' => e = .returned (.int .i64 r) ∧ Below w.heap.size w w' := by
 have hu55 := Try.underlying55; have HR0 := Aside0.mk hr0; have HC0 := Aside0.mk hc0; clear hr0 hc0; have HB := Aside0.mk (Below.refl w.heap.size w); have H : (impl_unitOf.l0 k a1 l0 (l0.length : Int) 0) = some r := h; clear h; have H' := Aside0.mk H; clear H; go_enter Try.func62, Try.ntmps62; go_wp2; go_loopg [9] k (fun kq v9 w' => ∃ (x9_1 : Int), v9 = .int .i64 x9_1 ∧ Aside0 (impl_unitOf.l0 kq a1 l0 (l0.length : Int) x9_1 = some r) ∧ Aside0 (kq ≤ k) ∧ Aside0 (Below w.heap.size w w')); (case atStart => exact ⟨(0), zi0, H', ⟨Nat.le_refl _⟩, ⟨zi1⟩⟩); case round =>
  clear H'; (try clear p2); obtain ⟨x9_1, rfl, HA, HK1, HB⟩ := hrel
  cases gk with
  | zero => exact absurd HA.out (by simp [impl_unitOf.l0])
  | succ k1 =>
   have H := HA.out; clear HA; simp only [impl_unitOf.l0] at H; by_cases c3 : x9_1 < (l0.length : Int)
   ·rw [if_pos c3] at H; have c3b0 : decide (x9_1 < (l0.length : Int)) = true := decide_eq_true c3; clear c3; by_cases c4 : 0 ≤ x9_1
    ·rw [if_pos c4] at H; have c4b0 : decide (0 ≤ x9_1) = true := decide_eq_true c4; clear c4; by_cases c5 : x9_1 < (l0.length : Int)
     ·rw [if_pos c5] at H; have c5b0 : decide (x9_1 < (l0.length : Int)) = true := decide_eq_true c5; clear c5; by_cases c6 : ((rd_T55 l0 x9_1).f0).toList = a1.toList
      ·rw [if_pos c6] at H; have c6b0 : (((rd_T55 l0 x9_1).f0).toList == a1.toList) = true := beq_iff_eq.mpr c6; have c6b1 : (((rd_T55 l0 x9_1).f0).toList != a1.toList) = false := bne_eq_false_iff_eq.mpr c6; clear c6; obtain rfl := Option.some.inj H; have p207 : 0 ≤ (x9_1 : Int) := of_decide_eq_true zi2; have q207 : x9_1 < (l0.length : Int) := of_decide_eq_true zi2; obtain ⟨ad207, A207_1, c207_1, A207_2, c207_2, e207, hx207_0, hx207_1, hx207_2, hx207_3, hx207_4, hl207_1, hi207_1, hl207_2, hi207_2⟩ := at_T55 HR0.out x9_1 p207 q207; cases e207; (try (replace hx207_0 := (HB.out.cell (World.block_lt_of_cell? w _ hx207_0)).trans hx207_0)); (try (replace hx207_1 := (HB.out.cell (World.block_lt_of_cell? w _ hx207_1)).trans hx207_1)); (try (replace hx207_2 := (HB.out.cell (World.block_lt_of_cell? w _ hx207_2)).trans hx207_2)); (try (replace hx207_3 := (HB.out.cell (World.block_lt_of_cell? w _ hx207_3)).trans hx207_3)); (try (replace hx207_4 := (HB.out.cell (World.block_lt_of_cell? w _ hx207_4)).trans hx207_4)); have HR207_1 := Aside0.mk hi207_1; have HC207_1 := Aside0.mk hl207_1; clear hi207_1 hl207_1; have HR207_2 := Aside0.mk hi207_2; have HC207_2 := Aside0.mk hl207_2; clear hi207_2 hl207_2; replace p207 := eq_true p207; replace q207 := eq_true q207; go_wp2_with (first | ((with_reducible refine gate_dst (N := 6) rfl ?_); refine box_event ?hg (N := 6) ?hd (cs := #[.string (⟨#[]⟩ : ByteArray), .slice none 0 0, .slice none 0 0, .string (⟨#[]⟩ : ByteArray), .bool false]) (t := 55) ?hr ?_; (case hd => rfl); (case hg => rfl); (case hr => first | (go_simp; done) | (go_simp; rfl)); intro gb208 hg w7 hbox hb; have BK208 := Aside0.mk (hbox); have GW208 := Aside0.mk ((by rw [hg]; exact (below_size qB) : w.heap.size ≤ gb208)); have GE208 := Aside0.mk ((by rw [hg]; exact (below_size qB) : w.heap.size ≤ gb208)); replace HB := Aside0.mk (below_step qB hb); clear hb hbox hg; have hcz8_0 : w7.cell? ⟨gb208, 0, none⟩ = some (.string (⟨#[]⟩ : ByteArray)) := (blk_cell BK208.out 0).trans rfl; have hcz8_1 : w7.cell? ⟨gb208, 1, none⟩ = some (.slice none 0 0) := (blk_cell BK208.out 1).trans rfl; have hcz8_2 : w7.cell? ⟨gb208, 2, none⟩ = some (.slice none 0 0) := (blk_cell BK208.out 2).trans rfl; have hcz8_3 : w7.cell? ⟨gb208, 3, none⟩ = some (.string (⟨#[]⟩ : ByteArray)) := (blk_cell BK208.out 3).trans rfl; have hcz8_4 : w7.cell? ⟨gb208, 4, none⟩ = some (.bool false) := (blk_cell BK208.out 4).trans rfl; have hfz8_0 := blk_frozen BK208.out 0; have hfz8_1 := blk_frozen BK208.out 1; have hfz8_2 := blk_frozen BK208.out 2; have hfz8_3 := blk_frozen BK208.out 3; have hfz8_4 := blk_frozen BK208.out 4)); go_ret; exact ⟨zi3, zi4⟩
      ·rw [if_neg c6] at H; have c6b0 : (((rd_T55 l0 x9_1).f0).toList == a1.toList) = false := beq_eq_false_iff_ne.mpr c6; have c6b1 : (((rd_T55 l0 x9_1).f0).toList != a1.toList) = true := bne_iff_ne.mpr c6; have H' := Aside0.mk H; clear H; have p207 : 0 ≤ (x9_1 : Int) := of_decide_eq_true zi2; have q207 : x9_1 < (l0.length : Int) := of_decide_eq_true zi2; obtain ⟨ad207, A207_1, c207_1, A207_2, c207_2, e207, hx207_0, hx207_1, hx207_2, hx207_3, hx207_4, hl207_1, hi207_1, hl207_2, hi207_2⟩ := at_T55 HR0.out x9_1 p207 q207; cases e207; (try (replace hx207_0 := (HB.out.cell (World.block_lt_of_cell? w _ hx207_0)).trans hx207_0)); (try (replace hx207_1 := (HB.out.cell (World.block_lt_of_cell? w _ hx207_1)).trans hx207_1)); (try (replace hx207_2 := (HB.out.cell (World.block_lt_of_cell? w _ hx207_2)).trans hx207_2)); (try (replace hx207_3 := (HB.out.cell (World.block_lt_of_cell? w _ hx207_3)).trans hx207_3)); (try (replace hx207_4 := (HB.out.cell (World.block_lt_of_cell? w _ hx207_4)).trans hx207_4)); have HR207_1 := Aside0.mk hi207_1; have HC207_1 := Aside0.mk hl207_1; clear hi207_1 hl207_1; have HR207_2 := Aside0.mk hi207_2; have HC207_2 := Aside0.mk hl207_2; clear hi207_2 hl207_2; replace p207 := eq_true p207; replace q207 := eq_true q207; go_wp2_with (first | ((with_reducible refine gate_dst (N := 6) rfl ?_); refine box_event ?hg (N := 6) ?hd (cs := #[.string (⟨#[]⟩ : ByteArray), .slice none 0 0, .slice none 0 0, .string (⟨#[]⟩ : ByteArray), .bool false]) (t := 55) ?hr ?_; (case hd => rfl); (case hg => rfl); (case hr => first | (go_simp; done) | (go_simp; rfl)); intro gb208 hg w9 hbox hb; have BK208 := Aside0.mk (hbox); have GW208 := Aside0.mk ((by rw [hg]; exact (below_size qB) : w.heap.size ≤ gb208)); have GE208 := Aside0.mk ((by rw [hg]; exact (below_size qB) : w.heap.size ≤ gb208)); replace HB := Aside0.mk (below_step qB hb); clear hb hbox hg; have hcz10_0 : w9.cell? ⟨gb208, 0, none⟩ = some (.string (⟨#[]⟩ : ByteArray)) := (blk_cell BK208.out 0).trans rfl; have hcz10_1 : w9.cell? ⟨gb208, 1, none⟩ = some (.slice none 0 0) := (blk_cell BK208.out 1).trans rfl; have hcz10_2 : w9.cell? ⟨gb208, 2, none⟩ = some (.slice none 0 0) := (blk_cell BK208.out 2).trans rfl; have hcz10_3 : w9.cell? ⟨gb208, 3, none⟩ = some (.string (⟨#[]⟩ : ByteArray)) := (blk_cell BK208.out 3).trans rfl; have hcz10_4 : w9.cell? ⟨gb208, 4, none⟩ = some (.bool false) := (blk_cell BK208.out 4).trans rfl; have hfz10_0 := blk_frozen BK208.out 0; have hfz10_1 := blk_frozen BK208.out 1; have hfz10_2 := blk_frozen BK208.out 2; have hfz10_3 := blk_frozen BK208.out 3; have hfz10_4 := blk_frozen BK208.out 4)); go_roundg k1; (case measure => have := HK1.out; omega); case rel => exact ⟨(wrap64 (x9_1 + 1)), zi0, H', ⟨by have := HK1.out; omega⟩, ⟨zi4⟩⟩
     ·rw [if_neg c5] at H; exact absurd H (by simp)
    ·rw [if_neg c4] at H; exact absurd H (by simp)
   ·rw [if_neg c3] at H; have c3b0 : decide (x9_1 < (l0.length : Int)) = false := decide_eq_false c3; clear c3; obtain rfl := Option.some.inj H; go_wp2; go_ret; exact ⟨zi3, zi1⟩

/-! ### impl_sortedSet: function 81 -/
set_option maxHeartbeats 4000000 in
set_option maxRecDepth 1000000 in
theorem impl_sortedSet_calls (A0 : Option Addr) (c0 : Nat) (l0 : List ByteArray) (r : List ByteArray) (w : World) (hr0 : Kd.C Kd.string w A0 l0.length l0) (hc0 : l0.length ≤ c0) (hlen : l0.length ≤ 1000000) (hsz : ∀ s ∈ l0, s.size ≤ maxLen) (hasc : asc r) (hmem : ∀ s, s ∈ r ↔ s ∈ l0) :
    Calls Try.prog 81 #[.slice A0 l0.length c0] w fun e w' => ∃ v0_ : Value, e = .returned (v0_) ∧ Kd.R Kd.string 9 w' w.heap.size (fun _ => True) v0_ r ∧ Below w.heap.size w w' := by
  have HR0 := Aside0.mk hr0; have HC0 := Aside0.mk hc0; have HL := Aside0.mk hlen; have HZ := Aside0.mk hsz; have HA := Aside0.mk hasc; have HM := Aside0.mk hmem; clear hr0 hc0 hlen hsz hasc hmem; have hmm := @run_makeMap Try.prog; go_enter Try.func81, Try.ntmps81; go_wp2; go_loopw [13] (fun i wr => ∃ (x : Int) (k : Nat) (D : DataW Unit), i = .int .i64 x ∧ Aside0 (x = (k : Int) ∧ k ≤ l0.length) ∧ wr.ownsMap Try.prog 9 (plainElem Try.prog 4) w.heap.size k D ∧ Aside0 (keyed D (fun s => s ∈ l0.take k)) ∧ Aside0 (Below w.heap.size w wr))
    (fun i _ => l0.length - (intOf i).toNat)
  (case atStart => exact ⟨0, 0, .map [], rfl, ⟨rfl, Nat.zero_le _⟩, World.ownsMap_made _ _ _ _, ⟨by simpa using keyed_nil⟩, ⟨(Below.refl _ _).alloc (Nat.le_refl _) _⟩⟩); case round =>
    obtain ⟨x, k, D, rfl, hk, hown, hkd, hnx⟩ := hrel; by_cases hlt : k < l0.length
    · have cb : decide (x < (l0.length : Int)) = true := decide_eq_true (by have := hk.out.1; omega); have p : 0 ≤ x := by have := hk.out.1; omega
      have q : x < (l0.length : Int) := by have := hk.out.1; omega
      obtain ⟨s, hs⟩ : ∃ s, rdOf ByteArray.empty l0 x = s := ⟨_, rfl⟩; obtain ⟨ad, e, hx⟩ := Kd.at_string (Kd.C_below HR0.out hnx.out) x p q; cases e; rw [hs] at hx; replace p := eq_true p; replace q := eq_true q; have hs' : l0[k] = s := by
        rw [← hs, atS_rd, ← atS_get l0 k hlt]; have := hk.out.1; subst this; rfl
      have hss : s.size ≤ maxLen := by
        rw [← hs']; exact HZ.out _ (List.getElem_mem hlt)
      have hkey : keyOf Try.prog 9 (.string s) = some (skey s) := Go.WideMaps.keyOf_string_mk Try.underlying9 hss; have hn : k < maxLen := by have := HL.out; unfold maxLen; omega
      have hkd' : Aside0 (keyed (D.put (skey s) (.lit (.bool true))) (fun x => x ∈ l0.take (k + 1))) := ⟨by
        have := keyed_put hkd.out hown.isMap s (.lit (.bool true)); rw [← List.take_append_getElem hlt, hs']; intro y; refine (this y).trans ?_; simp only [List.mem_append, List.mem_singleton]⟩
      have hlt' := Aside0.mk hlt; clear hs hs' hss hlt hkd; go_wp2_with (first
        | (at_mapUpdate; refine wpList_mapUpdate_own _ rfl _ _ _ 74 rfl 9 4 (Go.Maps.string_keyed Try.underlying9) Try.underlying74 _ w.heap.size k _ rfl hown hn _ _ _ rfl rfl hkey _ [] (plainElem_bool Try.underlying4 true) ?_)
        | go_in)
      intro w1 hown1 hgrow1; have R2 := Aside0.mk (hnx.out.grown hgrow1 hnx.out.size (fun j hj => by cases hj; exact Nat.le_refl _)); clear hgrow1 hown hkey hnx; go_wp2; go_roundw; (case rel => exact ⟨_, k + 1, _, rfl, ⟨by have := hk.out; have := HL.out; unfold wrap64; omega, hlt'.out⟩, hown1, hkd', R2⟩); case measure =>
        have := hk.out; have := HL.out; have := hlt'.out; have e : wrap64 (x + 1) = x + 1 := by unfold wrap64; omega
        simp [intOf, e]; omega
    · have cb : decide (x < (l0.length : Int)) = false := decide_eq_false (by have := hk.out; omega); have e : k = l0.length := by have := hk.out.2; omega
      subst e; have hkd' : Aside0 (keyed D (fun s => s ∈ l0)) := ⟨by have := hkd.out; rwa [List.take_length] at this⟩; have HB := hnx; have hown' := Aside0.mk hown; clear hlt hkd hnx hown; go_wp2_with (first
        | ((with_reducible refine gate_dst (N := 20) rfl ?_); go_loud (refine Kd.R_lit Kd.string _ 9 ?hg (N := 20) ?hd (xs := ([] : List ByteArray)) (inner := []) (ok := fun _ => True) (okp := fun _ => True) ?hr ?hp (fun _ hk => hk) trivial (Below.refl _ _) (Nat.le_refl _) (by simp) ?_; (case hd => rfl); (case hg => rfl); (case hr => first | (go_simp; done) | (go_simp; rfl)); (case hp => exact (Reps.none _ _)); intro v148 w4 ho5 hb hg_ hnew_; have hown4 := hown'.out.kept hg_ (by simp); have HB4 := Aside0.mk (below_step HB.out hb); have HO4 := Aside0.mk (Kd.R_mono (Kd.R_lower (Kd.R_bound ho5) (below_size HB.out)) (ok' := fun k_ => k_ ≠ w.heap.size ∧ k_ ≠ w4.heap.size) (fun k_ hk_ => ⟨by have := hk_.2.1; have := hown'.out.lt; omega, by have := hk_.2.2.1; omega⟩)); clear ho5 hb hg_ hnew_ HB hown'))
        | (at_range; go_loud (refine wpList_range_own _ rfl _ 74 rfl 9 4 (Go.Maps.string_keyed Try.underlying9) Try.underlying74 _ w.heap.size _ D rfl hown4 ?_; intro w0 hrg0 hg0 hs0))
        | go_in)
      go_frame; have HB0 := Aside0.mk (HB4.out.grown hg0 (HB4.out.size) (fun j hj => by cases hj)); have HO0 := Aside0.mk (Kd.R_step HO4.out (fun k_ _ hlt_ => hg0.block k_ hlt_ (by simp))); have hsz0 := Aside0.mk (ownsMap_size hown4); have H4 := Aside0.mk (below_size HB4.out); clear hown4 hg0 hs0 HB4 HO4; go_loopw [6] (fun v6 wr2 => ∃ (ss : List (List UInt8)) (left : Lit → Bool) (cnt : Nat), wr2.ranges Try.prog 9 (plainElem Try.prog 4) w.heap.size w4.heap.size l0.length D left cnt ∧ Aside0 (Collected D left ss) ∧ Aside0 (ss.length + cnt ≤ l0.length) ∧ Aside0 (Kd.R Kd.string 9 wr2 w.heap.size (fun k_ => k_ ≠ w.heap.size ∧ k_ ≠ w4.heap.size) v6 (ss.map mkS)) ∧ Aside0 (Below w.heap.size w wr2))
        (fun _ wr2 => wr2.rangeLeft w.heap.size w4.heap.size)
      (case atStart => exact ⟨[], _, _, hrg0, ⟨Collected.start D⟩, ⟨by have := hsz0.out; simpa using this⟩, HO0, HB0⟩); case round =>
        clear HO0 HB0 hrg0 hsz0; obtain ⟨ss, left, cnt, hrg, hC, hN, HO, HB⟩ := hrel; go_wp2_with (first
          | (at_next; refine wpList_next_ranges _ rfl _ rfl 9 (Go.Maps.string_keyed Try.underlying9) (plainElem Try.prog 4) (fun x => Value.string (mkS x)) Value.bool (keyOf_str_inv Try.underlying9) (plainElem_bool_inv Try.underlying4) w.heap.size w4.heap.size l0.length D left cnt rfl hrg ?aD ?aM; (case' aD => (intro hc0 hl0; have HD0 := Aside0.mk hl0; clear hc0 hl0)); (case' aM => (intro x c kl y w1 cnt1 hkey hlk hv hat hrg1 hlt1 hg1 hs1 hen; obtain ⟨x', ex, rfl, _⟩ := Maps.keyOf_str Try.underlying9 hkey; obtain rfl := encStr_inj (x := x) ex; have HC1 := Aside0.mk (hC.out.step hlk hat); have HRG := Aside0.mk hrg1; have HLT := Aside0.mk hlt1; have HB1 := Aside0.mk (HB.out.grown hg1 HB.out.size (fun j hj => by cases hj; exact H4.out)); have HO1 := Aside0.mk (Kd.R_step HO.out (fun k_ hk_ hlt_ => hg1.block k_ hlt_ (fun e => hk_.2 (by injection e)))); have HOR := Aside0.mk hrg; clear hkey hlk hv hat hrg1 hlt1 hg1 hs1 hrg ex hC HO HB)))
          | ((with_reducible refine gate_builtin (b := .append) (xs := #[.tmp 27, .tmp 29]) rfl ?_); at_builtin; go_loud (refine Kd.R_append Kd.string (w0 := w) w.heap.size rfl (.tmp 27) (.tmp 29) 29 9 (.string ⟨#[]⟩) 16 rfl Try.underlying29 info9 rfl (by decide) (by omega) u6 (ss.map mkS) (mkS x) [.string (mkS x)] (fun k_ => k_ ≠ w.heap.size ∧ k_ ≠ w4.heap.size) (fun _ => False) rfl rfl ?aP (fun _ hk => hk.elim) ?aF ?aO ?aB ?aS ?aL ?_; (case aP => exact rfl); (case aF => exact (fun k_ hk_ => ⟨by have := HRG.out.owns.lt; omega, by have := HRG.out.lt; omega⟩)); (case aO => exact HO1.out); (case aB => exact HB1.out); (case aS => exact below_size HB1.out); (case aL => have := hN.out; have := HL.out; simp only [List.length_map]; omega); intro v166 w26 ho hb hg hat; have HRG2 := Aside0.mk (HRG.out.kept hg (fun e => (HO1.out.1 _ e.symm).1 rfl) (fun e => (HO1.out.1 _ e.symm).2 rfl)); have HO2 := Aside0.mk ho; have HB2 := Aside0.mk hb; clear ho hb hg hat HRG HO1 HB1))
          | go_in)
        · refine ⟨⟨ss ++ [x], _, cnt1, HRG2.out, HC1, ⟨by have := hN.out; have := HLT.out; simp only [List.length_append, List.length_singleton]; omega⟩, ⟨by rw [List.map_append]; exact HO2.out⟩, HB2⟩, ?_⟩; rw [HRG2.out.left_eq, HOR.out.left_eq]; exact HLT.out
        · have HM2 := Aside0.mk (fun s => collected_mem hC.out HD0.out hkd'.out s); have HP := Aside0.mk (apartS_of (collected_nodup hC.out)); have HQ := Aside0.mk (Kd.R_mono HO.out (ok' := fun _ => True) (fun _ _ => trivial)); have HN := Aside0.mk (show (ss.map mkS).length ≤ 1000000 by have := hN.out; have := HL.out; simp only [List.length_map]; omega); obtain ⟨xs0, hxs0⟩ : ∃ xs0, ss.map mkS = xs0 := ⟨_, rfl⟩; rw [hxs0] at HM2 HP HQ HN; clear hxs0 hC HD0 hkd' HO hN hrg H4 HC0 HR0 HZ HL hk cb hmm; obtain ⟨Ao, co, eo⟩ := Kd.R_slice HQ.out; subst eo; go_loopw [8] (fun v8 wo => ∃ (x8 : Int) (k : Nat) (xs : List ByteArray), v8 = .int .i64 x8 ∧ Aside0 (x8 = (k : Int) ∧ 1 ≤ k ∧ xs.length = xs0.length ∧ ordS xs k k ∧ apartS xs ∧ ∀ s, s ∈ xs ↔ s ∈ l0) ∧ Aside0 (Kd.R Kd.string 9 wo w.heap.size (fun _ => True) (.slice Ao xs0.length co) xs) ∧ Aside0 (Below w.heap.size w wo))
            (fun v8 _ => xs0.length - (intOf v8).toNat)
          (case atStart => exact ⟨1, 1, xs0, rfl, ⟨rfl, Nat.le_refl _, rfl, fun a b hab hb hne => by omega, HP.out, HM2.out⟩, HQ, HB⟩); case round =>
            clear HM2 HP HQ HB; obtain ⟨x8, k, xs, rfl, hk, HQ, HB⟩ := hrel; by_cases hlt : k < xs0.length
            · have cb : decide (x8 < (xs0.length : Int)) = true := decide_eq_true (by have := hk.out.1; omega); have hlt' := Aside0.mk hlt; clear hlt; go_wp2; go_loopw [9] (fun v9 wi => ∃ (y : Int) (j : Nat) (ys : List ByteArray), v9 = .int .i64 y ∧ Aside0 (y = (j : Int) ∧ j ≤ k ∧ ys.length = xs0.length ∧ ordS ys k j ∧ apartS ys ∧ ∀ s, s ∈ ys ↔ s ∈ l0) ∧ Aside0 (Kd.R Kd.string 9 wi w.heap.size (fun _ => True) (.slice Ao xs0.length co) ys) ∧ Aside0 (Below w.heap.size w wi))
                (fun v9 _ => (intOf v9).toNat)
              (case atStart => exact ⟨x8, k, xs, rfl, ⟨hk.out.1, Nat.le_refl _, hk.out.2.2.1, hk.out.2.2.2.1, hk.out.2.2.2.2.1, hk.out.2.2.2.2.2⟩, HQ, HB⟩); case round =>
                clear HQ HB; obtain ⟨y, j, ys, rfl, hj, HQ, HB⟩ := hrel; by_cases h0 : 0 < y
                · have g0 : decide (0 < y) = true := decide_eq_true h0; have hlen' : j < ys.length := by have := hj.out.2.1; have := hj.out.2.2.1; have := hlt'.out; omega
                  obtain ⟨g, cap, eo, gb, gl, cells, HG⟩ := Kd.R_form HQ.out (by omega); injection eo with ea en ec; subst ea; subst ec; have GB := Aside0.mk gb; clear en gb gl HG cells; obtain ⟨z, hz⟩ : ∃ z : Int, wrap64 (y - 1) = z := ⟨_, rfl⟩; have hzw : (IntKind.i64.wrap (y - 1)) = z := (i64_w _).trans hz; have hzj : Aside0 (z = ((j - 1 : Nat) : Int)) := ⟨by have := hj.out.1; have := HN.out; have := hj.out.2.2.1; rw [← hz]; unfold wrap64; omega⟩; have pz : 0 ≤ z := by have := hzj.out; omega
                  have qz : z < (xs0.length : Int) := by have := hzj.out; have := hj.out.2.2.1; omega
                  have py : 0 ≤ y := by omega
                  have qy : y < (xs0.length : Int) := by have := hj.out.1; have := hj.out.2.2.1; omega
                  obtain ⟨hx1, hf1⟩ := Kd.R_celln (⟨#[]⟩ : ByteArray) HQ.out z pz qz; obtain ⟨hx2, hf2⟩ := Kd.R_celln (⟨#[]⟩ : ByteArray) HQ.out y py qy; obtain ⟨sa, hsa⟩ : ∃ s, rdOf (⟨#[]⟩ : ByteArray) ys z = s := ⟨_, rfl⟩; obtain ⟨sb, hsb⟩ : ∃ s, rdOf (⟨#[]⟩ : ByteArray) ys y = s := ⟨_, rfl⟩; rw [hsa] at hx1; rw [hsb] at hx2; have ea : Aside0 (atS ys (j - 1) = sa) := ⟨by rw [← hsa, hzj.out]; rfl⟩; have eb : Aside0 (atS ys j = sb) := ⟨by rw [← hsb, hj.out.1]; rfl⟩; have hne : (sa.toList == sb.toList) = false := by
                    rw [beq_eq_false_iff_ne]; intro e; have := toList_inj e; rw [← ea.out, ← eb.out] at this; exact hj.out.2.2.2.2.1 (j - 1) j (by have := hj.out.1; omega) hlen' this
                  have h0' := Aside0.mk h0; have hl' := Aside0.mk hlen'; replace pz := eq_true pz; replace qz := eq_true qz; replace py := eq_true py; replace qy := eq_true qy; clear hsa hsb h0 hlen' hz; by_cases hl : ltS sb sa
                  · have hb : Op.bytesLess sa.toList sb.toList = false := by
                      cases h : Op.bytesLess sa.toList sb.toList
                      · rfl
                      · exact (ltS_asym hl h).elim
                    have hl2 := Aside0.mk hl; clear hl; have HW := fun n => Kd.R_putg (Kd.R_drewN HQ.out n) z sb; have hf3 := fun n => (Kd.R_celln (⟨#[]⟩ : ByteArray) (HW n).1 y (of_eq_true py) (of_eq_true qy)).1; have hf4 := fun n => (Kd.R_celln (⟨#[]⟩ : ByteArray) (HW n).1 y (of_eq_true py) (of_eq_true qy)).2; have HW2 := Aside0.mk (fun n => (Kd.R_putg (HW n).1 y sa).1); clear HW; go_wp2; (repeat (go_quiet (fail); try go_wp2)); go_big_region; clear hf3 hf4 hx1 hx2 hf1 hf2 hb hne; go_wp2; go_roundw; case rel => exact ⟨_, j - 1, swp ys j, rfl, ⟨hzj.out, by have := hj.out.2.1; omega, by rw [swp_len]; exact hj.out.2.2.1, ordS_step hj.out.2.2.2.1 zi5 hj.out.2.1 zi6 (by rw [ea.out, eb.out]; exact hl2.out), swp_apart hj.out.2.2.2.2.1 zi5 hl'.out, fun s => (swp_mem zi5 hl'.out s).trans (hj.out.2.2.2.2.2 s)⟩, ⟨by
                      have h := HW2.out; have e1 : z.toNat = j - 1 := by rw [hzj.out]; rfl
                      have e2 : y.toNat = j := by rw [hj.out.1]; rfl
                      have e : (ys.set z.toNat sb).set y.toNat sa = swp ys j := by rw [e1, e2, swp, ea.out, eb.out]
                      rw [e] at h; (with_reducible repeat (first | apply Kd.R_alloc | apply Kd.R_drewN | apply Kd.R_drew)); exact h _⟩, ⟨below_set (below_set zi1 GB.out) GB.out⟩⟩
                    case measure =>
                      have := hzj.out; have := hj.out.1; have := h0'.out; simp [intOf]; omega
                  · have hb : Op.bytesLess sa.toList sb.toList = true := by
                      by_cases h : ltS sa sb
                      · exact h
                      · exact (hl (ltS_tri h (fun e => by rw [e] at hne; simp at hne))).elim
                    have hE := Aside0.mk (ordS_next (ordS_stop hj.out.2.2.2.1 hj.out.2.1 zi6 hj.out.2.2.2.2.1 (Or.inr (by rw [ea.out, eb.out]; exact hl)))); clear hl; go_wp2; (repeat (go_quiet (fail); try go_wp2)); go_roundw; (case rel => exact ⟨_, k + 1, ys, rfl, ⟨zi7, by omega, hj.out.2.2.1, hE.out, hj.out.2.2.2.2.1, hj.out.2.2.2.2.2⟩, ⟨zi8⟩, ⟨zi1⟩⟩); case measure =>
                      have := hk.out.1; have := HN.out; have := hlt'.out; have e : wrap64 (x8 + 1) = x8 + 1 := by unfold wrap64; omega
                      simp [intOf, e]; omega
                · have g0 : decide (0 < y) = false := decide_eq_false h0; have hE := Aside0.mk (ordS_next (ordS_stop hj.out.2.2.2.1 hj.out.2.1 zi6 hj.out.2.2.2.2.1 (Or.inl (by have := hj.out.1; omega)))); clear h0; go_wp2; (repeat (go_quiet (fail); try go_wp2)); go_roundw; (case rel => exact ⟨_, k + 1, ys, rfl, ⟨zi7, by omega, hj.out.2.2.1, hE.out, hj.out.2.2.2.2.1, hj.out.2.2.2.2.2⟩, ⟨zi8⟩, ⟨zi1⟩⟩); case measure =>
                    have := hk.out.1; have := HN.out; have := hlt'.out; have e : wrap64 (x8 + 1) = x8 + 1 := by unfold wrap64; omega
                    simp [intOf, e]; omega
            · have cb : decide (x8 < (xs0.length : Int)) = false := decide_eq_false (by have := hk.out.1; omega); have HE := Aside0.mk (asc_uniq (ordS_asc hk.out.2.2.2.1 (by have := hk.out.2.2.1; omega)) HA.out (fun s => (hk.out.2.2.2.2.2 s).trans (HM.out s).symm)); clear hlt hk; go_wp2; go_ret; refine ⟨_, rfl, ?_, HB.out⟩; have := HQ.out; rw [← HE.out]; exact this
def insS : List ByteArray → ByteArray → List ByteArray
 | [], s => [s]
 | a :: r, s => if Op.bytesLess a.toList s.toList = true then a :: insS r s else if a.toList = s.toList then a :: r else s :: a :: r
def delS (l : List ByteArray) (s : ByteArray) : List ByteArray := l.filter fun a => decide (a.toList ≠ s.toList)
theorem mem_insS (l : List ByteArray) (s x : ByteArray) : x ∈ insS l s ↔ (x ∈ l ∨ x = s) := by
  induction l with
  | nil => simp [insS]
  | cons a r ih =>
    unfold insS; by_cases h : Op.bytesLess a.toList s.toList = true
    · rw [if_pos h, List.mem_cons, ih, List.mem_cons, or_assoc]
    · rw [if_neg h]; by_cases h2 : a.toList = s.toList
      · rw [if_pos h2, toList_inj h2]; simp only [List.mem_cons]; constructor
        · exact fun h => Or.inl h
        · rintro (h | h)
          · exact h
          · exact Or.inl h
      · rw [if_neg h2]; simp only [List.mem_cons]; constructor
        · rintro (h | h)
          · exact Or.inr h
          · exact Or.inl h
        · rintro (h | h)
          · exact Or.inr h
          · exact Or.inl h
theorem asc_insS {l : List ByteArray} (h : asc l) (s : ByteArray) : asc (insS l s) := by
  induction l with
  | nil => simp [insS, asc]
  | cons a r ih =>
    obtain ⟨h1, h2⟩ := List.pairwise_cons.1 h; unfold insS; by_cases c : Op.bytesLess a.toList s.toList = true
    · rw [if_pos c]; refine List.pairwise_cons.2 ⟨fun x hx => ?_, ih h2⟩; rcases (mem_insS r s x).1 hx with hx | rfl
      · exact h1 x hx
      · exact c
    · rw [if_neg c]; by_cases c2 : a.toList = s.toList
      · rw [if_pos c2]; exact h
      · rw [if_neg c2]; have c3 : ltS s a := ltS_tri (show ¬ ltS a s from c) (fun e => c2 (by rw [e])); refine List.pairwise_cons.2 ⟨fun x hx => ?_, h⟩; rcases List.mem_cons.1 hx with rfl | hx
        · exact c3
        · exact ltS_trans c3 (h1 x hx)
theorem sortW_mem (l : List ByteArray) : ∀ a : List ByteArray, ∀ s, s ∈ l.foldl insS a ↔ (s ∈ a ∨ s ∈ l) := by
  induction l with
  | nil => intro a s; simp
  | cons x l ih =>
    intro a s; rw [List.foldl_cons, ih, mem_insS, List.mem_cons]; constructor
    · rintro ((h | h) | h)
      · exact Or.inl h
      · exact Or.inr (Or.inl h)
      · exact Or.inr (Or.inr h)
    · rintro (h | h | h)
      · exact Or.inl (Or.inl h)
      · exact Or.inl (Or.inr h)
      · exact Or.inr h
theorem sortW_asc (l : List ByteArray) : ∀ a : List ByteArray, asc a → asc (l.foldl insS a) := by
  induction l with
  | nil => intro a h; exact h
  | cons x l ih => intro a h; exact ih _ (asc_insS h x)
def impl_sortedSet.f (l0 : List ByteArray) : Option (List ByteArray) := if l0.length ≤ 1000000 ∧ (l0.all fun s => decide (s.size ≤ maxLen)) = true then some (l0.foldl insS []) else none
theorem impl_sortedSet.calls (A0 : Option Addr) (c0 : Nat) (l0 : List ByteArray) (r : List ByteArray) (w : World) (hr0 : Kd.C Kd.string w A0 l0.length l0) (hc0 : l0.length ≤ c0) (h : impl_sortedSet.f l0 = some r) :
    Calls Try.prog 81 #[.slice A0 l0.length c0] w fun e w' => ∃ v0_ : Value, e = .returned (v0_) ∧ Kd.R Kd.string 9 w' w.heap.size (fun _ => True) v0_ r ∧ Below w.heap.size w w' := by
  unfold impl_sortedSet.f at h; by_cases c : l0.length ≤ 1000000 ∧ (l0.all fun s => decide (s.size ≤ maxLen)) = true
  · rw [if_pos c] at h; obtain rfl := Option.some.inj h; exact impl_sortedSet_calls A0 c0 l0 _ w hr0 hc0 c.1 (fun s hs => of_decide_eq_true (List.all_eq_true.mp c.2 s hs)) (sortW_asc l0 [] List.Pairwise.nil) (fun s => by rw [sortW_mem]; simp)
  · rw [if_neg c] at h; exact absurd h (by simp)

/-! ### impl_waits: function 68 -/
def impl_waits.l0 : Nat → List (S55) → List ByteArray → List ByteArray → Int → Int → Option (List ByteArray)
 | 0, _, _, _, _, _ => none
 | k + 1, x0, x5, x13, x14, x15 => if x15 < x14 then (if 0 ≤ x15 then (if x15 < (x13.length : Int) then ((impl_unitOf.f k x0 (rdOf ByteArray.empty x13 x15)).bind fun t217 => (if t217 ≥ 0 then (if x5.length < 8796093022208 then (impl_waits.l0 k x0 (x5 ++ [rdOf ByteArray.empty x13 x15]) x13 x14 (wrap64 (x15 + 1))) else (none)) else (impl_waits.l0 k x0 x5 x13 x14 (wrap64 (x15 + 1))))) else (none)) else (none)) else ((impl_sortedSet.f x5).bind fun t221 => (some t221))
def impl_waits.f (k : Nat) (l0 : List (S55)) (a1_0 : ByteArray) (l1_1 : List ByteArray) (l1_2 : List ByteArray) (a1_3 : ByteArray) (a1_4 : Bool) : Option (List ByteArray) := (some (([] : List ByteArray) : List ByteArray)).bind fun y210 => (if y210.length + l1_2.length < 8796093022208 then (impl_waits.l0 k l0 (y210 ++ l1_2) l1_1 (l1_1.length : Int) 0) else (none))
theorem impl_waits.mono_l : ∀ k, (∀ y0 y1 y2 y3 y4, LeO (impl_waits.l0 k y0 y1 y2 y3 y4) (impl_waits.l0 (k + 1) y0 y1 y2 y3 y4))
 | 0 => fun _ _ _ _ _ r h => by simp [impl_waits.l0] at h
 | k + 1 => by
  have ih0 := impl_waits.mono_l k
  ·intro y0 y1 y2 y3 y4; unfold impl_waits.l0
   repeat' first
   | (with_reducible exact ih0 _ _ _ _ _)
   | (with_reducible exact impl_unitOf.mono _ _ _)
   | (with_reducible exact LeO.refl _)
   | (with_reducible exact LeO.none _)
   | (with_reducible refine LeO.ite ?_ ?_)
   | (with_reducible refine LeO.bind ?_ (fun _ => ?_))
   | exact ih0 _ _ _ _ _
   | exact impl_unitOf.mono _ _ _
   | exact LeO.none _
   | refine LeO.ite ?_ ?_
   | refine LeO.bind ?_ (fun _ => ?_)
theorem impl_waits.mono : ∀ a0 a1 a2 a3 a4 a5 k, LeO (impl_waits.f k a0 a1 a2 a3 a4 a5) (impl_waits.f (k + 1) a0 a1 a2 a3 a4 a5) := by
 intro a0 a1 a2 a3 a4 a5 k; have ih0 := impl_waits.mono_l k; unfold impl_waits.f
 repeat' first
   | (with_reducible exact ih0 _ _ _ _ _)
   | (with_reducible exact impl_unitOf.mono _ _ _)
   | (with_reducible exact LeO.refl _)
   | (with_reducible exact LeO.none _)
   | (with_reducible refine LeO.ite ?_ ?_)
   | (with_reducible refine LeO.bind ?_ (fun _ => ?_))
   | exact ih0 _ _ _ _ _
   | exact impl_unitOf.mono _ _ _
   | exact LeO.none _
   | refine LeO.ite ?_ ?_
   | refine LeO.bind ?_ (fun _ => ?_)
set_option maxHeartbeats 8000000 in
set_option maxRecDepth 100000 in
theorem impl_waits.calls (k : Nat) (A0 : Option Addr) (c0 : Nat) (l0 : List (S55)) (a1_0 : ByteArray) (A1_1 : Option Addr) (c1_1 : Nat) (l1_1 : List ByteArray) (A1_2 : Option Addr) (c1_2 : Nat) (l1_2 : List ByteArray) (a1_3 : ByteArray) (a1_4 : Bool) (r : List ByteArray) (w : World) (hr0 : Kd.C k55 w A0 l0.length l0) (hc0 : l0.length ≤ c0) (hr1_1 : Kd.C Kd.string w A1_1 l1_1.length l1_1) (hc1_1 : l1_1.length ≤ c1_1) (hr1_2 : Kd.C Kd.string w A1_2 l1_2.length l1_2) (hc1_2 : l1_2.length ≤ c1_2) (h : impl_waits.f k l0 a1_0 l1_1 l1_2 a1_3 a1_4 = some r) :
  Calls Try.prog 68 #[.slice A0 l0.length c0, .agg #[.string a1_0, .slice A1_1 l1_1.length c1_1, .slice A1_2 l1_2.length c1_2, .string a1_3, .bool a1_4]] w fun e w' => ∃ v0_ : Value, e = .returned (v0_) ∧ Kd.R Kd.string 9 w' w.heap.size (fun _ => True) v0_ r ∧ Below w.heap.size w w' := by
 have hu55 := Try.underlying55; have HR0 := Aside0.mk hr0; have HC0 := Aside0.mk hc0; clear hr0 hc0; have HR1_1 := Aside0.mk hr1_1; have HC1_1 := Aside0.mk hc1_1; clear hr1_1 hc1_1; have HR1_2 := Aside0.mk hr1_2; have HC1_2 := Aside0.mk hc1_2; clear hr1_2 hc1_2; have HB := Aside0.mk (Below.refl w.heap.size w); have H : ((some (([] : List ByteArray) : List ByteArray)).bind fun y210 => (if y210.length + l1_2.length < 8796093022208 then (impl_waits.l0 k l0 (y210 ++ l1_2) l1_1 (l1_1.length : Int) 0) else (none))) = some r := h; clear h; obtain ⟨y210, hy210⟩ : ∃ y_ : List ByteArray, y_ = (([] : List ByteArray)) := ⟨_, rfl⟩; replace H : (if y210.length + l1_2.length < 8796093022208 then (impl_waits.l0 k l0 (y210 ++ l1_2) l1_1 (l1_1.length : Int) 0) else (none)) = some r := by first | (rw [hy210]; with_reducible exact H) | (have H2_ := (Option.bind_some _ _).symm.trans H; rw [hy210]; with_reducible exact H2_) | (have H2_ := (Option.bind_some _ _).symm.trans H; with_reducible exact H2_) | with_reducible exact H | (rw [hy210]; exact H) | exact H
 have Ny210 := Aside0.mk hy210; clear hy210; by_cases c3 : y210.length + l1_2.length < 8796093022208
 ·rw [if_pos c3] at H; have LMc3 := Aside0.mk c3; clear c3; obtain ⟨y213, hy213⟩ : ∃ y_ : List ByteArray, y_ = (y210 ++ l1_2) := ⟨_, rfl⟩; replace H : (impl_waits.l0 k l0 y213 l1_1 (l1_1.length : Int) 0) = some r := by first | (rw [hy213]; with_reducible exact H) | (have H2_ := (Option.bind_some _ _).symm.trans H; rw [hy213]; with_reducible exact H2_) | (have H2_ := (Option.bind_some _ _).symm.trans H; with_reducible exact H2_) | with_reducible exact H | (rw [hy213]; exact H) | exact H
  have Ny213 := Aside0.mk hy213; clear hy213; have H' := Aside0.mk H; clear H; go_enter Try.func68, Try.ntmps68; go_wp2_with (first | ((with_reducible refine gate_dst (N := 3) rfl ?_); refine box_event ?hg (N := 3) ?hd (cs := #[.string a1_0, .slice A1_1 l1_1.length c1_1, .slice A1_2 l1_2.length c1_2, .string a1_3, .bool a1_4]) (t := 55) ?hr ?_; (case hd => rfl); (case hg => rfl); (case hr => first | (go_simp; done) | (go_simp; rfl)); intro gb209 hg w4 hbox hb; have BK209 := Aside0.mk (hbox); have GW209 := Aside0.mk ((by rw [hg]; exact (below_size qB) : w.heap.size ≤ gb209)); have GE209 := Aside0.mk ((by rw [hg]; exact (below_size qB) : w.heap.size ≤ gb209)); replace HB := Aside0.mk (below_step qB hb); clear hb hbox hg) | ((with_reducible refine gate_dst (N := 8) rfl ?_); refine Kd.R_lit Kd.string _ 9 ?hg (N := 8) ?hd (xs := ([] : List ByteArray)) (inner := []) (ok := fun _ => True) (okp := fun _ => True) ?hr ?hp (fun _ hk => hk) trivial (Below.refl _ _) (Nat.le_refl _) (by simp) ?_; (case hd => rfl); (case hg => rfl); (case hr => first | (go_simp; done) | (go_simp; rfl)); (case hp => exact (Reps.none _ _)); intro v211 w5 ho6 hb hg_ hnew_; clear hg_ hnew_; (first | rw [← Ny210.out] at ho6 | (simp only [Int.reduceToNat] at ho6; rw [← Ny210.out] at ho6)); have HO212 := Aside0.mk (Kd.R_lower ho6 (below_size (qG GE209.out))); replace BK209 := Aside0.mk (blk_below (g := gb209) (qK BK209.out) hb); replace HB := Aside0.mk (below_step (qG GE209.out) hb); clear hb ho6; have hcz7_0 : w5.cell? ⟨gb209, 0, none⟩ = some (.string a1_0) := (blk_cell BK209.out 0).trans rfl; have hcz7_1 : w5.cell? ⟨gb209, 1, none⟩ = some (.slice A1_1 l1_1.length c1_1) := (blk_cell BK209.out 1).trans rfl; have hcz7_2 : w5.cell? ⟨gb209, 2, none⟩ = some (.slice A1_2 l1_2.length c1_2) := (blk_cell BK209.out 2).trans rfl; have hcz7_3 : w5.cell? ⟨gb209, 3, none⟩ = some (.string a1_3) := (blk_cell BK209.out 3).trans rfl; have hcz7_4 : w5.cell? ⟨gb209, 4, none⟩ = some (.bool a1_4) := (blk_cell BK209.out 4).trans rfl; have hfz7_0 := blk_frozen BK209.out 0; have hfz7_1 := blk_frozen BK209.out 1; have hfz7_2 := blk_frozen BK209.out 2; have hfz7_3 := blk_frozen BK209.out 3; have hfz7_4 := blk_frozen BK209.out 4) | ((with_reducible refine gate_builtin (b := .append) (xs := #[.tmp 8, .tmp 10]) rfl ?_); at_builtin; refine Kd.R_append_rows Kd.string (w0 := w) w.heap.size rfl (.tmp 8) (.tmp 10) 29 9 (.string ⟨#[]⟩) 16 rfl Try.underlying29 info9 rfl (by decide) (by omega) v211 y210 l1_2 _ _ _ (fun _ => True) (fun _ => False) rfl rfl ?aO ?aR (fun _ _ h => h) (fun _ h => h.elim) ?aF ?aB ?aS ?aL ?_; (case aR => repeat (first | exact (Kd.C_below HR1_2.out HB.out) | (with_reducible refine Kd.C_alloc ?_ _) | (with_reducible refine Kd.C_drewN ?_ _) | (with_reducible refine Kd.C_drew ?_))); (case aB => exact (qG GE209.out)); (case aF => exact (fun _ _ => trivial)); (case aO => exact (zi9 HO212.out)); (case aS => exact (below_size (qG GE209.out))); (case aL => have := LMc3.out; omega); intro v214 w8 ho hb hg hat; rw [← Ny213.out] at ho; replace BK209 := Aside0.mk (blk_grown (g := gb209) (qK BK209.out) hg (Kd.R_ne HO212.out BK209.out (by decide))); replace HB := Aside0.mk (hb); have HO215 := Aside0.mk (ho); clear HO212; clear ho hb hg hat; have hcz9_0 : w8.cell? ⟨gb209, 0, none⟩ = some (.string a1_0) := (blk_cell BK209.out 0).trans rfl; have hcz9_1 : w8.cell? ⟨gb209, 1, none⟩ = some (.slice A1_1 l1_1.length c1_1) := (blk_cell BK209.out 1).trans rfl; have hcz9_2 : w8.cell? ⟨gb209, 2, none⟩ = some (.slice A1_2 l1_2.length c1_2) := (blk_cell BK209.out 2).trans rfl; have hcz9_3 : w8.cell? ⟨gb209, 3, none⟩ = some (.string a1_3) := (blk_cell BK209.out 3).trans rfl; have hcz9_4 : w8.cell? ⟨gb209, 4, none⟩ = some (.bool a1_4) := (blk_cell BK209.out 4).trans rfl; have hfz9_0 := blk_frozen BK209.out 0; have hfz9_1 := blk_frozen BK209.out 1; have hfz9_2 := blk_frozen BK209.out 2; have hfz9_3 := blk_frozen BK209.out 3; have hfz9_4 := blk_frozen BK209.out 4)); go_loopg [5, 15] k (fun kq v5 v15 w' => ∃ (x5_1 : List ByteArray) (x15_1 : Int), v15 = .int .i64 x15_1 ∧ Aside0 (impl_waits.l0 kq l0 x5_1 l1_1 (l1_1.length : Int) x15_1 = some r) ∧ Aside0 (kq ≤ k) ∧ Aside0 (Kd.R Kd.string 9 w' w.heap.size (fun _ => True) v5 x5_1) ∧ Aside0 (w'.heap[gb209]? = some (.cells #[.string a1_0, (.slice A1_1 l1_1.length c1_1), (.slice A1_2 l1_2.length c1_2), .string a1_3, .bool a1_4] 55 (0, 0))) ∧ Aside0 (Below w.heap.size w w')); (case atStart => exact ⟨(y213), (0), zi0, H', ⟨Nat.le_refl _⟩, ⟨zi9 HO215.out⟩, ⟨zi10⟩, ⟨zi11⟩⟩); case round =>
   clear H'; (try clear c1); (try clear p2); (try clear c3); (try clear c6); (try clear hcz7_0); (try clear hcz7_1); (try clear hcz7_2); (try clear hcz7_3); (try clear hcz7_4); (try clear hcz9_0); (try clear hcz9_1); (try clear hcz9_2); (try clear hcz9_3); (try clear hcz9_4); (try clear hfz7_0); (try clear hfz7_1); (try clear hfz7_2); (try clear hfz7_3); (try clear hfz7_4); (try clear hfz9_0); (try clear hfz9_1); (try clear hfz9_2); (try clear hfz9_3); (try clear hfz9_4); obtain ⟨x5_1, x15_1, rfl, HA, HK1, HO_5, BK209, HB⟩ := hrel
   cases gk with
   | zero => exact absurd HA.out (by simp [impl_waits.l0])
   | succ k1 =>
    have H := HA.out; clear HA; simp only [impl_waits.l0] at H; by_cases c10 : x15_1 < (l1_1.length : Int)
    ·rw [if_pos c10] at H; have c10b0 : decide (x15_1 < (l1_1.length : Int)) = true := decide_eq_true c10; clear c10; by_cases c11 : 0 ≤ x15_1
     ·rw [if_pos c11] at H; have c11b0 : decide (0 ≤ x15_1) = true := decide_eq_true c11; clear c11; by_cases c12 : x15_1 < (l1_1.length : Int)
      ·rw [if_pos c12] at H; have c12b0 : decide (x15_1 < (l1_1.length : Int)) = true := decide_eq_true c12; clear c12; replace H := Option.bind_eq_some_iff.mp H; obtain ⟨t217, A130, H⟩ := H; have A13 := Aside0.mk A130; clear A130; by_cases c14 : t217 ≥ 0
       ·rw [if_pos c14] at H; have c14b0 : decide (0 ≤ t217) = true := decide_eq_true c14; clear c14; by_cases c15 : x5_1.length < 8796093022208
        ·rw [if_pos c15] at H; have LMc15 := Aside0.mk c15; clear c15; obtain ⟨y218, hy218⟩ : ∃ y_ : List ByteArray, y_ = (x5_1 ++ [rdOf ByteArray.empty l1_1 x15_1]) := ⟨_, rfl⟩; replace H : (impl_waits.l0 k1 l0 y218 l1_1 (l1_1.length : Int) (wrap64 (x15_1 + 1))) = some r := by first | (rw [hy218]; with_reducible exact H) | (have H2_ := (Option.bind_some _ _).symm.trans H; rw [hy218]; with_reducible exact H2_) | (have H2_ := (Option.bind_some _ _).symm.trans H; with_reducible exact H2_) | with_reducible exact H | (rw [hy218]; exact H) | exact H
         have Ny218 := Aside0.mk hy218; clear hy218; have H' := Aside0.mk H; clear H; have p216 : 0 ≤ (x15_1 : Int) := of_decide_eq_true zi2; have q216 : x15_1 < (l1_1.length : Int) := of_decide_eq_true zi2; obtain ⟨ad216, e216, hx216_0⟩ := Kd.at_string HR1_1.out x15_1 p216 q216; cases e216; (try (replace hx216_0 := (HB.out.cell (World.block_lt_of_cell? w _ hx216_0)).trans hx216_0)); replace p216 := eq_true p216; replace q216 := eq_true q216; go_wp2_with (first | ((with_reducible refine gate_callee (f := 62) rfl ?_); refine goesL_ (some 21) rfl rfl Try.func62 (by kernel_rfl) rfl #[.slice A0 l0.length c0, .string (rdOf ByteArray.empty l1_1 x15_1)] rfl zi12 ?_; (with_reducible refine (impl_unitOf.calls k1 _ _ l0 (rdOf ByteArray.empty l1_1 x15_1) t217 _ ?side1 ?side2 A13.out).mono ?_); (case side1 => exact zi13); (case side2 => exact HC0.out); rintro e w16 ⟨rfl, hb⟩; refine ⟨_, rfl, ?_⟩; replace HO_5 := Aside0.mk (Kd.R_below (zi9 HO_5.out) hb); replace BK209 := Aside0.mk (blk_below (g := gb209) (qK BK209.out) hb); replace HB := Aside0.mk (below_step (qG GE209.out) hb); (try clear hb); (try clear hb2); (try clear hk); (try clear hi)) | ((with_reducible refine gate_builtin (b := .append) (xs := #[.tmp 23, .tmp 25]) rfl ?_); at_builtin; refine Kd.R_append Kd.string (w0 := w) w.heap.size rfl (.tmp 23) (.tmp 25) 29 9 (.string ⟨#[]⟩) 16 rfl Try.underlying29 info9 rfl (by decide) (by omega) u5 x5_1 (rdOf ByteArray.empty l1_1 x15_1) [.string (rdOf ByteArray.empty l1_1 x15_1)] (fun _ => True) (fun _ => False) rfl rfl ?aP (fun _ hk => hk.elim) ?aF ?aO ?aB ?aS ?aL ?_; (case aP => exact rfl); (case aB => exact (qG GE209.out)); (case aF => exact (fun _ _ => trivial)); (case aO => exact (zi9 HO_5.out)); (case aS => exact (below_size (qG GE209.out))); (case aL => have := LMc15.out; omega); intro v219 w17 ho hb hg hat; rw [← Ny218.out] at ho; replace BK209 := Aside0.mk (blk_grown (g := gb209) (qK BK209.out) hg (Kd.R_ne HO_5.out BK209.out (by decide))); replace HB := Aside0.mk (hb); have HO220 := Aside0.mk (ho); clear HO_5; clear ho hb hg hat)); go_roundg k1; (case measure => have := HK1.out; omega); case rel => exact ⟨(y218), (wrap64 (x15_1 + 1)), zi0, H', ⟨by have := HK1.out; omega⟩, ⟨zi9 HO220.out⟩, ⟨zi10⟩, ⟨zi11⟩⟩
        ·rw [if_neg c15] at H; exact absurd H (by simp)
       ·rw [if_neg c14] at H; have c14b0 : decide (0 ≤ t217) = false := decide_eq_false c14; clear c14; have H' := Aside0.mk H; clear H; have p216 : 0 ≤ (x15_1 : Int) := of_decide_eq_true zi2; have q216 : x15_1 < (l1_1.length : Int) := of_decide_eq_true zi2; obtain ⟨ad216, e216, hx216_0⟩ := Kd.at_string HR1_1.out x15_1 p216 q216; cases e216; (try (replace hx216_0 := (HB.out.cell (World.block_lt_of_cell? w _ hx216_0)).trans hx216_0)); replace p216 := eq_true p216; replace q216 := eq_true q216; go_wp2_with (first | ((with_reducible refine gate_callee (f := 62) rfl ?_); refine goesL_ (some 21) rfl rfl Try.func62 (by kernel_rfl) rfl #[.slice A0 l0.length c0, .string (rdOf ByteArray.empty l1_1 x15_1)] rfl zi12 ?_; (with_reducible refine (impl_unitOf.calls k1 _ _ l0 (rdOf ByteArray.empty l1_1 x15_1) t217 _ ?side1 ?side2 A13.out).mono ?_); (case side1 => exact zi13); (case side2 => exact HC0.out); rintro e w18 ⟨rfl, hb⟩; refine ⟨_, rfl, ?_⟩; replace HO_5 := Aside0.mk (Kd.R_below (zi9 HO_5.out) hb); replace BK209 := Aside0.mk (blk_below (g := gb209) (qK BK209.out) hb); replace HB := Aside0.mk (below_step (qG GE209.out) hb); (try clear hb); (try clear hb2); (try clear hk); (try clear hi))); go_roundg k1; (case measure => have := HK1.out; omega); case rel => exact ⟨(x5_1), (wrap64 (x15_1 + 1)), zi0, H', ⟨by have := HK1.out; omega⟩, ⟨zi9 HO_5.out⟩, ⟨zi10⟩, ⟨zi11⟩⟩
      ·rw [if_neg c12] at H; exact absurd H (by simp)
     ·rw [if_neg c11] at H; exact absurd H (by simp)
    ·rw [if_neg c10] at H; have c10b0 : decide (x15_1 < (l1_1.length : Int)) = false := decide_eq_false c10; clear c10; replace H := Option.bind_eq_some_iff.mp H; obtain ⟨t221, A190, H⟩ := H; have A19 := Aside0.mk A190; clear A190; obtain rfl := Option.some.inj H; obtain ⟨Ao20, co20, eo20⟩ := Kd.R_slice HO_5.out; subst eo20; go_wp2_with (first | ((with_reducible refine gate_callee (f := 81) rfl ?_); refine goesL_ (some 29) rfl rfl Try.func81 (by kernel_rfl) rfl #[.slice Ao20 x5_1.length co20] rfl zi12 ?_; (with_reducible refine (impl_sortedSet.calls _ _ x5_1 t221 _ ?side1 ?side2 A19.out).mono ?_); (case side1 => repeat (first | exact (Kd.R_reads' HO_5.out).2.2 | (with_reducible refine Kd.C_alloc ?_ _) | (with_reducible refine Kd.C_drewN ?_ _) | (with_reducible refine Kd.C_drew ?_))); (case side2 => exact (Kd.R_reads' HO_5.out).2.1); rintro e w21 ⟨v222, rfl, ho0, hb⟩; refine ⟨_, rfl, ?_⟩; have HO223 := Aside0.mk (Kd.R_lower (Kd.R_new' ho0 (Kd.R_lt (zi9 HO_5.out))) (below_size (qG GE209.out))); replace HO_5 := Aside0.mk (Kd.R_elder' (zi9 HO_5.out) (Kd.R_base ho0) hb); replace BK209 := Aside0.mk (blk_below (g := gb209) (qK BK209.out) hb); replace HB := Aside0.mk (below_step (qG GE209.out) hb); (try clear hb); (try clear hb2); (try clear hk); (try clear hi); (try clear ho0))); go_ret; exact ⟨_, zi3, by (with_reducible repeat (first | apply Kd.R_alloc | apply Kd.R_drewN | apply Kd.R_drew)); exact Kd.R_mono HO223.out (fun _ hk => trivial), zi11⟩
 ·rw [if_neg c3] at H; exact absurd H (by simp)

end Go.Proofs.Ytnahkojlamficaa.PFnPlanReaches
