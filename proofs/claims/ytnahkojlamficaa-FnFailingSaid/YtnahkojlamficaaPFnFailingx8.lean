-- Laid by a program of this session: a turned copy of the kit's print, with contracts by hand beside.
import Derived.Test.YtnahkojlamficaaPFnFailingx0
import Derived.Test.YtnahkojlamficaaPFnFailingx4
import Derived.Test.YtnahkojlamficaaPFnFailingx6
import Derived.Test.YtnahkojlamficaaPFnFailingx7
namespace Go.Proofs.Ytnahkojlamficaa.PFnFailing
open Go.RowKit Go.Proofs.YtnahkojlamficaaW.PrintWords Go.Proofs.YtnahkojlamficaaW.PrintLast Go.Proofs.YtnahkojlamficaaW.PrintMore
theorem zi0 {X : Prop} (h : X := by (try simp only [List.map_toArray, List.map_cons, List.map_nil]); first | done | rfl | (simp only [List.length_drop, List.length_take]; rfl)) : X := h
theorem zi1 {X : Prop} (h : X := by repeat (first | exact (Kd.C_below HR0.out HB.out) | (with_reducible refine Kd.C_alloc ?_ _) | (with_reducible refine Kd.C_drewN ?_ _) | (with_reducible refine Kd.C_drew ?_))) : X := h
theorem zi2 {X : Prop} (h : X := by repeat (first | (with_reducible first | exact HB.out | apply below_alloc | apply pw_below_drewN | apply below_drew1) | exact HB.out)) : X := h
theorem zi3 {X : Prop} (h : X := by first | rfl | (simp; done) | (simp [*]; done)) : X := h
theorem zi4 {X : Prop} (h : X := by first | rfl | (simp [errW_none, errW_some] <;> rfl) | (simp [*, errW_none, errW_some] <;> rfl)) : X := h
theorem zi5 {A0 X : Prop} (a0 : A0) (h : A0 → X := by intro a0_; (with_reducible repeat (first | apply MS_alloc | apply MS_drewN | apply MS_drew)); exact a0_) : X := h a0
theorem zi6 {X : Prop} (h : X := by first | (with_reducible assumption) | assumption) : X := h
theorem zi7 {X : Prop} (h : X := by have := HJ2.out; have := HK2.out; have := HK3.out; have := HK4.out; omega) : X := h
theorem zi8 {X : Prop} (h : X := by (with_reducible repeat (first | apply MS_alloc | apply MS_drewN | apply MS_drew)); exact MS_drop (MS_far ⟨gb258, 4, none⟩ (MS_far ⟨gb258, 3, none⟩ (MS_far ⟨gb258, 2, none⟩ (MS_far ⟨gb258, 1, none⟩ (MS_far ⟨gb258, 0, none⟩ (MS_types HO_5.out BK258.out) (.string ((rd_T55 l0 x38_4).f0))) (.slice A257_1 ((rd_T55 l0 x38_4).f1).length c257_1)) (.slice A257_2 ((rd_T55 l0 x38_4).f2).length c257_2)) (.string ((rd_T55 l0 x38_4).f3))) (.bool ((rd_T55 l0 x38_4).f4)))) : X := h
theorem zi9 {X : Prop} (h : X := by repeat (first | (with_reducible first | exact HB.out | apply below_alloc | apply pw_below_drewN | apply below_drew1 | refine below_set ?_ GE258.out) | exact HB.out)) : X := h
theorem zi10 {X : Prop} (h : X := by (with_reducible repeat (first | refine blk_drewN ?_ _ | refine blk_drew ?_ | refine blk_alloc ?_ _)); exact BK258.out) : X := h
theorem zi11 {X : Prop} (h : X := by have := HJ2.out; have := HK2.out; have := HK3.out; have := HK4.out; have := HK5.out; omega) : X := h
attribute [local go_sem] max2_int min2_int max_two min_two max_three min_three max_four min_four   -- for this text's walks alone
set_option linter.unusedVariables false
set_option linter.unusedSimpArgs false

/-! ### impl_Failing: function 29 -/
theorem setTy_impl_Failing : SetTy Try.prog 74 9 4 := ⟨Try.underlying74, Try.underlying9, Try.underlying4, fun w => by kernel_rfl⟩
theorem sz_row {l : List ByteArray} (h : (l.all fun s => decide (s.size ≤ 9223372036854775807)) = true) (x : Int) : (rdOf ByteArray.empty l x).size ≤ maxLen := by
  unfold rdOf
  rw [List.getD_eq_getElem?_getD]
  by_cases c : x.toNat < l.length
  · rw [List.getElem?_eq_getElem c]
    have := List.all_eq_true.mp h _ (List.getElem_mem c)
    simpa [maxLen] using this
  · rw [List.getElem?_eq_none (by omega)]
    exact Nat.zero_le _
theorem sz_unit {l : List S55} (h : (l.all fun e => decide (e.f0.size ≤ 9223372036854775807) && e.f2.all fun s => decide (s.size ≤ 9223372036854775807)) = true) (x : Int) : (rd_T55 l x).f0.size ≤ maxLen ∧ ((rd_T55 l x).f2.all fun s => decide (s.size ≤ 9223372036854775807)) = true := by
  unfold rd_T55
  rw [List.getD_eq_getElem?_getD]
  by_cases c : x.toNat < l.length
  · rw [List.getElem?_eq_getElem c]
    have := List.all_eq_true.mp h _ (List.getElem_mem c)
    rw [Bool.and_eq_true] at this
    exact ⟨by have := this.1; simpa [maxLen] using this, this.2⟩
  · rw [List.getElem?_eq_none (by omega)]
    exact ⟨Nat.zero_le _, rfl⟩
theorem sz_name {l : List S55} (h : (l.all fun e => decide (e.f0.size ≤ 9223372036854775807) && e.f2.all fun s => decide (s.size ≤ 9223372036854775807)) = true) (x : Int) : (rd_T55 l x).f0.size ≤ maxLen := (sz_unit h x).1
theorem sz_need {l : List S55} (h : (l.all fun e => decide (e.f0.size ≤ 9223372036854775807) && e.f2.all fun s => decide (s.size ≤ 9223372036854775807)) = true) (x y : Int) : (rdOf ByteArray.empty (rd_T55 l x).f2 y).size ≤ maxLen := sz_row (sz_unit h x).2 y
theorem sorted_f {l r : List ByteArray} (h : impl_sortedSet.f l = some r) : l.length ≤ 1000000 ∧ r = l.foldl insS [] := by
  unfold impl_sortedSet.f at h
  split at h
  · rename_i c
    exact ⟨c.1, (Option.some.inj h).symm⟩
  · exact absurd h (by simp)
theorem sorted_len {l r : List ByteArray} (h : impl_sortedSet.f l = some r) : l.length ≤ 1000000 := (sorted_f h).1
theorem sorted_asc {l r : List ByteArray} (h : impl_sortedSet.f l = some r) : asc r := by
  rw [(sorted_f h).2]
  exact sortW_asc l [] List.Pairwise.nil
theorem sorted_keyed {l r : List ByteArray} (h : impl_sortedSet.f l = some r) : keyed (setMap l) (fun s => s ∈ r) := by
  intro s
  refine (keyed_setMap l s).trans ?_
  show s ∈ l ↔ s ∈ r
  rw [(sorted_f h).2, sortW_mem]
  simp
theorem MS_keys {k e : TypeId} {P : Program} {w : World} {b : Nat} {v : Value} {S : List ByteArray} (h : MS P k e w b v S) : ∃ g nn, v = .map (some g) ∧ w.ownsMap P k (plainElem P e) g nn (setMap S) ∧ nn ≤ S.length := by
  obtain ⟨g, nn, h1, _, _, _, h2, h3⟩ := h
  exact ⟨g, nn, h1, h2, h3⟩
set_option maxHeartbeats 4000000 in
set_option maxRecDepth 1000000 in
theorem impl_keysOf_calls (b n : Nat) (D : DataW Unit) (r : List ByteArray) (w : World) (hown : w.ownsMap Try.prog 9 (plainElem Try.prog 4) b n D) (hn : n ≤ 1000000) (hasc : asc r) (hkd : keyed D (fun s => s ∈ r)) :
    Calls Try.prog 57 #[.map (some b)] w fun e w' => ∃ v0_ : Value, e = .returned (v0_) ∧ Kd.R Kd.string 9 w' w.heap.size (fun _ => True) v0_ r ∧ Below w.heap.size w w' := by
  have HA := Aside0.mk hasc
  have HK := Aside0.mk hkd
  have HL := Aside0.mk hn
  have HB := Aside0.mk (Below.refl w.heap.size w)
  have hown' := Aside0.mk hown
  have hbs := Aside0.mk hown.lt
  clear hasc hkd hn hown
  go_enter Try.func57, Try.ntmps57
  go_wp2_with (first
    | ((with_reducible refine gate_dst (N := 5) rfl ?_); go_loud (refine Kd.R_lit Kd.string _ 9 ?hg (N := 5) ?hd (xs := ([] : List ByteArray)) (inner := []) (ok := fun _ => True) (okp := fun _ => True) ?hr ?hp (fun _ hk => hk) trivial (Below.refl _ _) (Nat.le_refl _) (by simp) ?_; (case hd => rfl); (case hg => rfl); (case hr => first | (go_simp; done) | (go_simp; rfl)); (case hp => exact (Reps.none _ _)); intro v148 w4 ho5 hb hg_ hnew_; have hown4 := hown'.out.kept hg_ (by simp); have HB4 := Aside0.mk (below_step HB.out hb); have HO4 := Aside0.mk (Kd.R_mono (Kd.R_lower (Kd.R_bound ho5) (below_size HB.out)) (ok' := fun k_ => k_ ≠ b ∧ k_ ≠ w4.heap.size) (fun k_ hk_ => ⟨by have := hk_.2.1; have := hbs.out; omega, by have := hk_.2.2.1; omega⟩)); clear ho5 hb hg_ hnew_ HB hown'))
    | (at_range; go_loud (refine wpList_range_own _ rfl _ 74 rfl 9 4 (Go.Maps.string_keyed Try.underlying9) Try.underlying74 _ b _ D rfl hown4 ?_; intro w0 hrg0 hg0 hs0))
    | go_in)
  go_frame
  have HB0 := Aside0.mk (HB4.out.grown hg0 (HB4.out.size) (fun j hj => by cases hj))
  have HO0 := Aside0.mk (Kd.R_step HO4.out (fun k_ _ hlt_ => hg0.block k_ hlt_ (by simp)))
  have hsz0 := Aside0.mk (ownsMap_size hown4)
  have H4 := Aside0.mk (below_size HB4.out)
  clear hown4 hg0 hs0 HB4 HO4
  go_loopw [3] (fun v3 wr2 => ∃ (ss : List (List UInt8)) (left : Lit → Bool) (cnt : Nat), wr2.ranges Try.prog 9 (plainElem Try.prog 4) b w4.heap.size n D left cnt ∧ Aside0 (Collected D left ss) ∧ Aside0 (ss.length + cnt ≤ n ∧ ∀ s ∈ ss.map mkS, s.size ≤ maxLen) ∧ Aside0 (Kd.R Kd.string 9 wr2 w.heap.size (fun k_ => k_ ≠ b ∧ k_ ≠ w4.heap.size) v3 (ss.map mkS)) ∧ Aside0 (Below w.heap.size w wr2))
    (fun _ wr2 => wr2.rangeLeft b w4.heap.size)
  case atStart => exact ⟨[], _, _, hrg0, ⟨Collected.start D⟩, ⟨by have := hsz0.out; simpa using this, by simp⟩, HO0, HB0⟩
  case round =>
    clear HO0 HB0 hrg0 hsz0
    obtain ⟨ss, left, cnt, hrg, hC, hN, HO, HB⟩ := hrel
    go_wp2_with (first
      | (at_next; refine wpList_next_ranges _ rfl _ rfl 9 (Go.Maps.string_keyed Try.underlying9) (plainElem Try.prog 4) (fun x => Value.string (mkS x)) Value.bool (keyOf_str_inv Try.underlying9) (plainElem_bool_inv Try.underlying4) b w4.heap.size n D left cnt rfl hrg ?aD ?aM; (case' aD => (intro hc0 hl0; have HD0 := Aside0.mk hl0; clear hc0 hl0)); (case' aM => (intro x c kl y w1 cnt1 hkey hlk hv hat hrg1 hlt1 hg1 hs1 hen; obtain ⟨x', ex, rfl, hxl⟩ := Maps.keyOf_str Try.underlying9 hkey; obtain rfl := encStr_inj (x := x) ex; have HXL := Aside0.mk hxl; have HC1 := Aside0.mk (hC.out.step hlk hat); have HRG := Aside0.mk hrg1; have HLT := Aside0.mk hlt1; have HB1 := Aside0.mk (HB.out.grown hg1 HB.out.size (fun j hj => by cases hj; exact H4.out)); have HO1 := Aside0.mk (Kd.R_step HO.out (fun k_ hk_ hlt_ => hg1.block k_ hlt_ (fun e => hk_.2 (by injection e)))); have HOR := Aside0.mk hrg; clear hkey hlk hv hat hrg1 hlt1 hg1 hs1 hrg ex hC HO HB hxl)))
      | ((with_reducible refine gate_builtin (b := .append) (xs := #[.tmp 12, .tmp 14]) rfl ?_); at_builtin; go_loud (refine Kd.R_append Kd.string (w0 := w) w.heap.size rfl (.tmp 12) (.tmp 14) 29 9 (.string ⟨#[]⟩) 16 rfl Try.underlying29 info9 rfl (by decide) (by omega) u3 (ss.map mkS) (mkS x) [.string (mkS x)] (fun k_ => k_ ≠ b ∧ k_ ≠ w4.heap.size) (fun _ => False) rfl rfl ?aP (fun _ hk => hk.elim) ?aF ?aO ?aB ?aS ?aL ?_; (case aP => exact rfl); (case aF => exact (fun k_ hk_ => ⟨by have := HRG.out.owns.lt; omega, by have := HRG.out.lt; omega⟩)); (case aO => exact HO1.out); (case aB => exact HB1.out); (case aS => exact below_size HB1.out); (case aL => have := hN.out.1; have := HL.out; simp only [List.length_map]; omega); intro v166 w26 ho hb hg hat; have HRG2 := Aside0.mk (HRG.out.kept hg (fun e => (HO1.out.1 _ e.symm).1 rfl) (fun e => (HO1.out.1 _ e.symm).2 rfl)); have HO2 := Aside0.mk ho; have HB2 := Aside0.mk hb; clear ho hb hg hat HRG HO1 HB1))
      | (go_at_call 81; go_loud (obtain ⟨Ao, co, eo⟩ := Kd.R_slice HO.out; subst eo; have HQ := Kd.R_reads' HO.out; (with_reducible refine (impl_sortedSet_calls Ao co (ss.map mkS) r _ HQ.2.2 HQ.2.1 (by have := hN.out.1; have := HL.out; simp only [List.length_map]; omega) hN.out.2 HA.out (fun s => (collected_mem hC.out HD0.out HK.out s).symm)).mono ?_); rintro e w5 ⟨v9, rfl, ho9, hb9⟩; have HO9 := Aside0.mk (Kd.R_lower ho9 (below_size HB.out)); have HB9 := Aside0.mk (below_step HB.out hb9); clear ho9 hb9 HQ))
      | go_in)
    · refine ⟨⟨ss ++ [x], _, cnt1, HRG2.out, HC1, ⟨by have := hN.out.1; have := HLT.out; simp only [List.length_append, List.length_singleton]; omega, by
        intro s hs
        rw [List.map_append, List.mem_append] at hs
        rcases hs with hs | hs
        · exact hN.out.2 s hs
        · rw [List.map_singleton, List.mem_singleton] at hs
          rw [hs]
          have := HXL.out
          show x.toArray.size ≤ _
          simpa using this⟩, ⟨by rw [List.map_append]; exact HO2.out⟩, HB2⟩, ?_⟩
      rw [HRG2.out.left_eq, HOR.out.left_eq]
      exact HLT.out
    · go_ret
      exact ⟨_, rfl, HO9.out, HB9.out⟩
mutual
def impl_Failing.j0 : Nat → List (S55) → List ByteArray → Bool → Option (List ByteArray)
  | 0, _, _, _ => none
  | k + 1, x0, x1, x20 => if x20 = true then (some ([] : List ByteArray)) else (impl_Failing.l0 k x0 (([] : List ByteArray)) x1 (x1.length : Int) 0)
def impl_Failing.l0 : Nat → List (S55) → List ByteArray → List ByteArray → Int → Int → Option (List ByteArray)
  | 0, _, _, _, _, _ => none
  | k + 1, x0, x5, x22, x23, x24 => if x24 < x23 then (if 0 ≤ x24 then (if x24 < (x22.length : Int) then ((impl_unitOf.f k x0 (rdOf ByteArray.empty x22 x24)).bind fun t250 => (if t250 ≥ 0 then (if x5.length < 8796093022208 then (impl_Failing.l0 k x0 (x5 ++ [rdOf ByteArray.empty x22 x24]) x22 x23 (wrap64 (x24 + 1))) else (none)) else (impl_Failing.l0 k x0 x5 x22 x23 (wrap64 (x24 + 1))))) else (none)) else (none)) else (impl_Failing.l1 k x0 x5 true)
def impl_Failing.l1 : Nat → List (S55) → List ByteArray → Bool → Option (List ByteArray)
  | 0, _, _, _ => none
  | k + 1, x0, x5, x8 => if x8 = true then (impl_Failing.l2 k x0 x5 false x0 (x0.length : Int) 0) else ((impl_sortedSet.f x5).bind fun t254 => (some t254))
def impl_Failing.l2 : Nat → List (S55) → List ByteArray → Bool → List (S55) → Int → Int → Option (List ByteArray)
  | 0, _, _, _, _, _, _ => none
  | k + 1, x0, x5, x8, x36, x37, x38 => if x38 < x37 then (if 0 ≤ x38 then (if x38 < (x36.length : Int) then ((some (hasW x5 ((rd_T55 x36 x38).f0))).bind fun t259 => (if t259 = true then (impl_Failing.l2 k x0 x5 x8 x36 x37 (wrap64 (x38 + 1))) else (impl_Failing.l3 k x0 x5 x8 x36 x37 x38 ((rd_T55 x36 x38).f2) (((rd_T55 x36 x38).f2).length : Int) 0 ((rd_T55 x36 x38).f0) ((rd_T55 x36 x38).f1) ((rd_T55 x36 x38).f2) ((rd_T55 x36 x38).f3) ((rd_T55 x36 x38).f4)))) else (none)) else (none)) else (impl_Failing.l1 k x0 x5 x8)
def impl_Failing.l3 : Nat → List (S55) → List ByteArray → Bool → List (S55) → Int → Int → List ByteArray → Int → Int → ByteArray → List ByteArray → List ByteArray → ByteArray → Bool → Option (List ByteArray)
  | 0, _, _, _, _, _, _, _, _, _, _, _, _, _, _ => none
  | k + 1, x0, x5, x8, x36, x37, x38, x47, x48, x49, x259000, x259001, x259002, x259003, x259004 => if x49 < x48 then (if 0 ≤ x49 then (if x49 < (x47.length : Int) then ((impl_unitOf.f k x0 (rdOf ByteArray.empty x47 x49)).bind fun t261 => (if t261 < 0 then (if x5.length < 8796093022208 then (impl_Failing.l3 k x0 (x5 ++ [x259000]) true x36 x37 x38 x47 x48 (wrap64 (x49 + 1)) x259000 x259001 x259002 x259003 x259004) else (none)) else ((some (hasW x5 (rdOf ByteArray.empty x47 x49))).bind fun t265 => (if t265 = true then (if x5.length < 8796093022208 then (impl_Failing.l3 k x0 (x5 ++ [x259000]) true x36 x37 x38 x47 x48 (wrap64 (x49 + 1)) x259000 x259001 x259002 x259003 x259004) else (none)) else (impl_Failing.l3 k x0 x5 x8 x36 x37 x38 x47 x48 (wrap64 (x49 + 1)) x259000 x259001 x259002 x259003 x259004))))) else (none)) else (none)) else (impl_Failing.l2 k x0 x5 x8 x36 x37 (wrap64 (x38 + 1)))
end
def impl_Failing.f (k : Nat) (l0 : List (S55)) (l1 : List ByteArray) : Option (List ByteArray) := if (l0.all fun e => decide (e.f0.size ≤ 9223372036854775807) && e.f2.all fun s => decide (s.size ≤ 9223372036854775807)) = true ∧ (l1.all fun s => decide (s.size ≤ 9223372036854775807)) = true then ((impl_UnitsOk.f k l0).bind fun t245 => (if t245 = true then (impl_Failing.j0 k l0 l1 (decide ((l1.length : Int) > 2000))) else (impl_Failing.j0 k l0 l1 true))) else none
theorem impl_Failing.mono_l : ∀ k, (∀ y0 y1 y2, LeO (impl_Failing.j0 k y0 y1 y2) (impl_Failing.j0 (k + 1) y0 y1 y2)) ∧ (∀ y0 y1 y2 y3 y4, LeO (impl_Failing.l0 k y0 y1 y2 y3 y4) (impl_Failing.l0 (k + 1) y0 y1 y2 y3 y4)) ∧ (∀ y0 y1 y2, LeO (impl_Failing.l1 k y0 y1 y2) (impl_Failing.l1 (k + 1) y0 y1 y2)) ∧ (∀ y0 y1 y2 y3 y4 y5, LeO (impl_Failing.l2 k y0 y1 y2 y3 y4 y5) (impl_Failing.l2 (k + 1) y0 y1 y2 y3 y4 y5)) ∧ (∀ y0 y1 y2 y3 y4 y5 y6 y7 y8 y9 y10 y11 y12 y13, LeO (impl_Failing.l3 k y0 y1 y2 y3 y4 y5 y6 y7 y8 y9 y10 y11 y12 y13) (impl_Failing.l3 (k + 1) y0 y1 y2 y3 y4 y5 y6 y7 y8 y9 y10 y11 y12 y13))
  | 0 => ⟨fun _ _ _ r h => by simp [impl_Failing.j0] at h, fun _ _ _ _ _ r h => by simp [impl_Failing.l0] at h, fun _ _ _ r h => by simp [impl_Failing.l1] at h, fun _ _ _ _ _ _ r h => by simp [impl_Failing.l2] at h, fun _ _ _ _ _ _ _ _ _ _ _ _ _ _ r h => by simp [impl_Failing.l3] at h⟩
  | k + 1 => by
    obtain ⟨ih0, ih1, ih2, ih3, ih4⟩ := impl_Failing.mono_l k
    refine ⟨?_, ?_, ?_, ?_, ?_⟩
    · intro y0 y1 y2
      unfold impl_Failing.j0
      repeat' first
      | (with_reducible exact ih0 _ _ _)
      | (with_reducible exact ih1 _ _ _ _ _)
      | (with_reducible exact ih2 _ _ _)
      | (with_reducible exact ih3 _ _ _ _ _ _)
      | (with_reducible exact ih4 _ _ _ _ _ _ _ _ _ _ _ _ _ _)
      | (with_reducible exact impl_UnitsOk.mono _ _)
      | (with_reducible exact impl_unitOf.mono _ _ _)
      | (with_reducible exact LeO.refl _)
      | (with_reducible exact LeO.none _)
      | (with_reducible refine LeO.ite ?_ ?_)
      | (with_reducible refine LeO.bind ?_ (fun _ => ?_))
      | exact ih0 _ _ _
      | exact ih1 _ _ _ _ _
      | exact ih2 _ _ _
      | exact ih3 _ _ _ _ _ _
      | exact ih4 _ _ _ _ _ _ _ _ _ _ _ _ _ _
      | exact impl_UnitsOk.mono _ _
      | exact impl_unitOf.mono _ _ _
      | exact LeO.none _
      | refine LeO.ite ?_ ?_
      | refine LeO.bind ?_ (fun _ => ?_)
    · intro y0 y1 y2 y3 y4
      unfold impl_Failing.l0
      repeat' first
      | (with_reducible exact ih0 _ _ _)
      | (with_reducible exact ih1 _ _ _ _ _)
      | (with_reducible exact ih2 _ _ _)
      | (with_reducible exact ih3 _ _ _ _ _ _)
      | (with_reducible exact ih4 _ _ _ _ _ _ _ _ _ _ _ _ _ _)
      | (with_reducible exact impl_UnitsOk.mono _ _)
      | (with_reducible exact impl_unitOf.mono _ _ _)
      | (with_reducible exact LeO.refl _)
      | (with_reducible exact LeO.none _)
      | (with_reducible refine LeO.ite ?_ ?_)
      | (with_reducible refine LeO.bind ?_ (fun _ => ?_))
      | exact ih0 _ _ _
      | exact ih1 _ _ _ _ _
      | exact ih2 _ _ _
      | exact ih3 _ _ _ _ _ _
      | exact ih4 _ _ _ _ _ _ _ _ _ _ _ _ _ _
      | exact impl_UnitsOk.mono _ _
      | exact impl_unitOf.mono _ _ _
      | exact LeO.none _
      | refine LeO.ite ?_ ?_
      | refine LeO.bind ?_ (fun _ => ?_)
    · intro y0 y1 y2
      unfold impl_Failing.l1
      repeat' first
      | (with_reducible exact ih0 _ _ _)
      | (with_reducible exact ih1 _ _ _ _ _)
      | (with_reducible exact ih2 _ _ _)
      | (with_reducible exact ih3 _ _ _ _ _ _)
      | (with_reducible exact ih4 _ _ _ _ _ _ _ _ _ _ _ _ _ _)
      | (with_reducible exact impl_UnitsOk.mono _ _)
      | (with_reducible exact impl_unitOf.mono _ _ _)
      | (with_reducible exact LeO.refl _)
      | (with_reducible exact LeO.none _)
      | (with_reducible refine LeO.ite ?_ ?_)
      | (with_reducible refine LeO.bind ?_ (fun _ => ?_))
      | exact ih0 _ _ _
      | exact ih1 _ _ _ _ _
      | exact ih2 _ _ _
      | exact ih3 _ _ _ _ _ _
      | exact ih4 _ _ _ _ _ _ _ _ _ _ _ _ _ _
      | exact impl_UnitsOk.mono _ _
      | exact impl_unitOf.mono _ _ _
      | exact LeO.none _
      | refine LeO.ite ?_ ?_
      | refine LeO.bind ?_ (fun _ => ?_)
    · intro y0 y1 y2 y3 y4 y5
      unfold impl_Failing.l2
      repeat' first
      | (with_reducible exact ih0 _ _ _)
      | (with_reducible exact ih1 _ _ _ _ _)
      | (with_reducible exact ih2 _ _ _)
      | (with_reducible exact ih3 _ _ _ _ _ _)
      | (with_reducible exact ih4 _ _ _ _ _ _ _ _ _ _ _ _ _ _)
      | (with_reducible exact impl_UnitsOk.mono _ _)
      | (with_reducible exact impl_unitOf.mono _ _ _)
      | (with_reducible exact LeO.refl _)
      | (with_reducible exact LeO.none _)
      | (with_reducible refine LeO.ite ?_ ?_)
      | (with_reducible refine LeO.bind ?_ (fun _ => ?_))
      | exact ih0 _ _ _
      | exact ih1 _ _ _ _ _
      | exact ih2 _ _ _
      | exact ih3 _ _ _ _ _ _
      | exact ih4 _ _ _ _ _ _ _ _ _ _ _ _ _ _
      | exact impl_UnitsOk.mono _ _
      | exact impl_unitOf.mono _ _ _
      | exact LeO.none _
      | refine LeO.ite ?_ ?_
      | refine LeO.bind ?_ (fun _ => ?_)
    · intro y0 y1 y2 y3 y4 y5 y6 y7 y8 y9 y10 y11 y12 y13
      unfold impl_Failing.l3
      repeat' first
      | (with_reducible exact ih0 _ _ _)
      | (with_reducible exact ih1 _ _ _ _ _)
      | (with_reducible exact ih2 _ _ _)
      | (with_reducible exact ih3 _ _ _ _ _ _)
      | (with_reducible exact ih4 _ _ _ _ _ _ _ _ _ _ _ _ _ _)
      | (with_reducible exact impl_UnitsOk.mono _ _)
      | (with_reducible exact impl_unitOf.mono _ _ _)
      | (with_reducible exact LeO.refl _)
      | (with_reducible exact LeO.none _)
      | (with_reducible refine LeO.ite ?_ ?_)
      | (with_reducible refine LeO.bind ?_ (fun _ => ?_))
      | exact ih0 _ _ _
      | exact ih1 _ _ _ _ _
      | exact ih2 _ _ _
      | exact ih3 _ _ _ _ _ _
      | exact ih4 _ _ _ _ _ _ _ _ _ _ _ _ _ _
      | exact impl_UnitsOk.mono _ _
      | exact impl_unitOf.mono _ _ _
      | exact LeO.none _
      | refine LeO.ite ?_ ?_
      | refine LeO.bind ?_ (fun _ => ?_)
theorem impl_Failing.mono : ∀ a0 a1 k, LeO (impl_Failing.f k a0 a1) (impl_Failing.f (k + 1) a0 a1) := by
  intro a0 a1 k
  obtain ⟨ih0, ih1, ih2, ih3, ih4⟩ := impl_Failing.mono_l k
  unfold impl_Failing.f
  repeat' first
      | (with_reducible exact ih0 _ _ _)
      | (with_reducible exact ih1 _ _ _ _ _)
      | (with_reducible exact ih2 _ _ _)
      | (with_reducible exact ih3 _ _ _ _ _ _)
      | (with_reducible exact ih4 _ _ _ _ _ _ _ _ _ _ _ _ _ _)
      | (with_reducible exact impl_UnitsOk.mono _ _)
      | (with_reducible exact impl_unitOf.mono _ _ _)
      | (with_reducible exact LeO.refl _)
      | (with_reducible exact LeO.none _)
      | (with_reducible refine LeO.ite ?_ ?_)
      | (with_reducible refine LeO.bind ?_ (fun _ => ?_))
      | exact ih0 _ _ _
      | exact ih1 _ _ _ _ _
      | exact ih2 _ _ _
      | exact ih3 _ _ _ _ _ _
      | exact ih4 _ _ _ _ _ _ _ _ _ _ _ _ _ _
      | exact impl_UnitsOk.mono _ _
      | exact impl_unitOf.mono _ _ _
      | exact LeO.none _
      | refine LeO.ite ?_ ?_
      | refine LeO.bind ?_ (fun _ => ?_)
set_option maxHeartbeats 8000000 in
set_option maxRecDepth 100000 in
theorem impl_Failing.calls (k : Nat) (A0 : Option Addr) (c0 : Nat) (l0 : List (S55)) (A1 : Option Addr) (c1 : Nat) (l1 : List ByteArray) (r : List ByteArray) (w : World) (hr0 : Kd.C k55 w A0 l0.length l0) (hc0 : l0.length ≤ c0) (hr1 : Kd.C Kd.string w A1 l1.length l1) (hc1 : l1.length ≤ c1) (h : impl_Failing.f k l0 l1 = some r) :
    Calls Try.prog 29 #[.slice A0 l0.length c0, .slice A1 l1.length c1] w fun e w' => ∃ v0_ : Value, e = .returned (v0_) ∧ Kd.R Kd.string 9 w' w.heap.size (fun _ => True) v0_ r ∧ Below w.heap.size w w' := by
  have hu55 := Try.underlying55
  have HR0 := Aside0.mk hr0
  have HC0 := Aside0.mk hc0
  clear hr0 hc0
  have HR1 := Aside0.mk hr1
  have HC1 := Aside0.mk hc1
  clear hr1 hc1
  have HB := Aside0.mk (Below.refl w.heap.size w)
  unfold impl_Failing.f at h
  by_cases hg0 : (l0.all fun e => decide (e.f0.size ≤ 9223372036854775807) && e.f2.all fun s => decide (s.size ≤ 9223372036854775807)) = true ∧ (l1.all fun s => decide (s.size ≤ 9223372036854775807)) = true
  rotate_left
  · rw [if_neg hg0] at h
    exact absurd h (by simp)
  rw [if_pos hg0] at h
  have HZ0 := Aside0.mk hg0.1
  have HZ1 := Aside0.mk hg0.2
  clear hg0
  have hmm := @run_makeMap Try.prog
  have H : ((impl_UnitsOk.f k l0).bind fun t245 => (if t245 = true then (impl_Failing.j0 k l0 l1 (decide ((l1.length : Int) > 2000))) else (impl_Failing.j0 k l0 l1 true))) = some r := h
  clear h
  have HC3 := Aside0.mk H
  clear H
  go_enter Try.func29, Try.ntmps29
  go_upto_region 1 with (fail)
  go_cut [20] (fun v20 wc => ∃ (kq : Nat) (x20_2 : Bool), v20 = .bool x20_2 ∧ Aside0 (impl_Failing.j0 kq l0 l1 x20_2 = some r) ∧ Aside0 (kq ≤ k) ∧ Aside0 (Below w.heap.size w wc))
  case first =>
    have H := HC3.out
    clear HC3
    replace H := Option.bind_eq_some_iff.mp H
    obtain ⟨t245, A40, H⟩ := H
    replace H : (if t245 = true then (impl_Failing.j0 k l0 l1 (decide ((l1.length : Int) > 2000))) else (impl_Failing.j0 k l0 l1 true)) = some r := H
    have A4 := Aside0.mk A40
    clear A40
    by_cases c5 : t245 = true
    · subst c5
      have H1 : (impl_Failing.j0 k l0 l1 (decide ((l1.length : Int) > 2000))) = some r := by rw [if_pos rfl] at H; exact H
      clear H
      have H := H1
      clear H1
      have H' := Aside0.mk H
      clear H
      go_wp2_with (first | ((with_reducible refine gate_callee (f := 15) rfl ?_); refine goesL_ (some 14) rfl rfl Try.func15 (by kernel_rfl) rfl #[.slice A0 l0.length c0] rfl zi0 ?_; (with_reducible refine (impl_UnitsOk.calls k _ _ l0 true _ ?side1 ?side2 A4.out).mono ?_); (case side1 => exact zi1); (case side2 => exact HC0.out); rintro e w6 ⟨rfl, hb⟩; refine ⟨_, rfl, ?_⟩; replace HB := Aside0.mk (below_step zi2 hb); (try clear hb); (try clear hb2); (try clear hk); (try clear hi)))
      go_meet
      case rel => exact ⟨_, (decide ((l1.length : Int) > 2000)), zi3, H', ⟨by first | omega | exact Nat.le_refl _⟩, ⟨zi2⟩⟩
    · replace c5 := Bool.eq_false_iff.mpr c5
      subst c5
      have H1 : (impl_Failing.j0 k l0 l1 true) = some r := by rw [if_neg (show ¬ (false = true) by decide)] at H; exact H
      clear H
      have H := H1
      clear H1
      have H' := Aside0.mk H
      clear H
      go_wp2_with (first | ((with_reducible refine gate_callee (f := 15) rfl ?_); refine goesL_ (some 14) rfl rfl Try.func15 (by kernel_rfl) rfl #[.slice A0 l0.length c0] rfl zi0 ?_; (with_reducible refine (impl_UnitsOk.calls k _ _ l0 false _ ?side1 ?side2 A4.out).mono ?_); (case side1 => exact zi1); (case side2 => exact HC0.out); rintro e w7 ⟨rfl, hb⟩; refine ⟨_, rfl, ?_⟩; replace HB := Aside0.mk (below_step zi2 hb); (try clear hb); (try clear hb2); (try clear hk); (try clear hi)))
      go_meet
      case rel => exact ⟨_, (true), zi3, H', ⟨by first | omega | exact Nat.le_refl _⟩, ⟨zi2⟩⟩
  case rest =>
    clear HC3
    try clear c1
    try clear c2
    try clear p2
    try clear c5
    obtain ⟨kq, x20_2, rfl, HA, HJ2, HB⟩ := hcut
    cases kq with
    | zero => exact absurd HA.out (by simp [impl_Failing.j0])
    | succ kj2 =>
      have H := HA.out
      clear HA
      simp only [impl_Failing.j0] at H
      by_cases c8 : x20_2 = true
      · subst c8
        have H1 : (some ([] : List ByteArray)) = some r := by rw [if_pos rfl] at H; exact H
        clear H
        have H := H1
        clear H1
        obtain rfl := Option.some.inj H
        go_wp2
        go_ret
        exact ⟨_, zi4, by first | exact Kd.R_nil _ _ _ _ _ | exact Kd.N_nil _ _ _ _ _ | exact Kd.V_nil _ _ _ _ _ | exact Kd.Q_nil _ _ _ _ _ | exact Kd.S_nil _ _ _ _ _, zi2⟩
      · replace c8 := Bool.eq_false_iff.mpr c8
        subst c8
        have H1 : (impl_Failing.l0 kj2 l0 (([] : List ByteArray)) l1 (l1.length : Int) 0) = some r := by rw [if_neg (show ¬ (false = true) by decide)] at H; exact H
        clear H
        have H := H1
        clear H1
        obtain ⟨y246, hy246⟩ : ∃ y_ : List ByteArray, y_ = (([] : List ByteArray)) := ⟨_, rfl⟩
        replace H : (impl_Failing.l0 kj2 l0 y246 l1 (l1.length : Int) 0) = some r := by first | (rw [hy246]; with_reducible exact H) | (have H2_ := (Option.bind_some _ _).symm.trans H; rw [hy246]; with_reducible exact H2_) | (have H2_ := (Option.bind_some _ _).symm.trans H; with_reducible exact H2_) | with_reducible exact H | (rw [hy246]; exact H) | exact H
        have Ny246 := Aside0.mk hy246
        clear hy246
        have H' := Aside0.mk H
        clear H
        go_wp2_with (first | ((with_reducible refine gate_dst (N := 21) rfl ?_); (try (refine gate_guard (by rfl) ?_; dsimp only)); refine wpList_makeMap_MS (w0 := w) _ (b := w.heap.size) 9 4 rfl _ rfl zi2 (below_size zi2) ?_; intro v247 w9 ho10 hB_ hb; clear hB_; (first | rw [← Ny246.out] at ho10 | (simp only [Int.reduceToNat] at ho10; rw [← Ny246.out] at ho10)); have HO248 := Aside0.mk ho10; replace HB := Aside0.mk (below_step zi2 hb); clear hb ho10))
        go_loopg [24] kj2 (fun kq v24 w' => ∃ (x5_2 : List ByteArray) (x24_2 : Int), v24 = .int .i64 x24_2 ∧ Aside0 (impl_Failing.l0 kq l0 x5_2 l1 (l1.length : Int) x24_2 = some r) ∧ Aside0 (kq ≤ kj2) ∧ Aside0 (MS Try.prog 9 4 w' w.heap.size v247 x5_2) ∧ Aside0 (Below w.heap.size w w'))
        case atStart => exact ⟨(y246), (0), zi3, H', ⟨Nat.le_refl _⟩, ⟨zi5 HO248.out⟩, ⟨zi2⟩⟩
        case round =>
          clear H'
          try clear c1
          try clear c2
          try clear p2
          try clear c5
          try clear c8
          try clear p2
          obtain ⟨x5_2, x24_2, rfl, HA, HK2, HO_5, HB⟩ := hrel
          cases gk with
          | zero => exact absurd HA.out (by simp [impl_Failing.l0])
          | succ k2 =>
            have H := HA.out
            clear HA
            simp only [impl_Failing.l0] at H
            by_cases c11 : x24_2 < (l1.length : Int)
            · rw [if_pos c11] at H
              have c11b0 : decide (x24_2 < (l1.length : Int)) = true := decide_eq_true c11
              clear c11
              by_cases c12 : 0 ≤ x24_2
              · rw [if_pos c12] at H
                have c12b0 : decide (0 ≤ x24_2) = true := decide_eq_true c12
                clear c12
                by_cases c13 : x24_2 < (l1.length : Int)
                · rw [if_pos c13] at H
                  have c13b0 : decide (x24_2 < (l1.length : Int)) = true := decide_eq_true c13
                  clear c13
                  replace H := Option.bind_eq_some_iff.mp H
                  obtain ⟨t250, A140, H⟩ := H
                  replace H : (if t250 ≥ 0 then (if x5_2.length < 8796093022208 then (impl_Failing.l0 k2 l0 (x5_2 ++ [rdOf ByteArray.empty l1 x24_2]) l1 (l1.length : Int) (wrap64 (x24_2 + 1))) else (none)) else (impl_Failing.l0 k2 l0 x5_2 l1 (l1.length : Int) (wrap64 (x24_2 + 1)))) = some r := H
                  have A14 := Aside0.mk A140
                  clear A140
                  by_cases c15 : t250 ≥ 0
                  · rw [if_pos c15] at H
                    have c15b0 : decide (0 ≤ t250) = true := decide_eq_true c15
                    clear c15
                    by_cases c16 : x5_2.length < 8796093022208
                    · rw [if_pos c16] at H
                      have LMc16 := Aside0.mk c16
                      clear c16
                      obtain ⟨y251, hy251⟩ : ∃ y_ : List ByteArray, y_ = (x5_2 ++ [rdOf ByteArray.empty l1 x24_2]) := ⟨_, rfl⟩
                      replace H : (impl_Failing.l0 k2 l0 y251 l1 (l1.length : Int) (wrap64 (x24_2 + 1))) = some r := by first | (rw [hy251]; with_reducible exact H) | (have H2_ := (Option.bind_some _ _).symm.trans H; rw [hy251]; with_reducible exact H2_) | (have H2_ := (Option.bind_some _ _).symm.trans H; with_reducible exact H2_) | with_reducible exact H | (rw [hy251]; exact H) | exact H
                      have Ny251 := Aside0.mk hy251
                      clear hy251
                      have H' := Aside0.mk H
                      clear H
                      have p249 : 0 ≤ (x24_2 : Int) := of_decide_eq_true zi6
                      have q249 : x24_2 < (l1.length : Int) := of_decide_eq_true zi6
                      obtain ⟨ad249, e249, hx249_0⟩ := Kd.at_string HR1.out x24_2 p249 q249
                      cases e249
                      try (replace hx249_0 := (HB.out.cell (World.block_lt_of_cell? w _ hx249_0)).trans hx249_0)
                      replace p249 := eq_true p249
                      replace q249 := eq_true q249
                      go_wp2_with (first | ((with_reducible refine gate_callee (f := 62) rfl ?_); refine goesL_ (some 30) rfl rfl Try.func62 (by kernel_rfl) rfl #[.slice A0 l0.length c0, .string (rdOf ByteArray.empty l1 x24_2)] rfl zi0 ?_; (with_reducible refine (impl_unitOf.calls k2 _ _ l0 (rdOf ByteArray.empty l1 x24_2) t250 _ ?side1 ?side2 A14.out).mono ?_); (case side1 => exact zi1); (case side2 => exact HC0.out); rintro e w17 ⟨rfl, hb⟩; refine ⟨_, rfl, ?_⟩; replace HO_5 := Aside0.mk (MS_below (zi5 HO_5.out) hb); replace HB := Aside0.mk (below_step zi2 hb); (try clear hb); (try clear hb2); (try clear hk); (try clear hi)) | (at_mapUpdate; (try (refine gate_guard (by rfl) ?_; dsimp only)); refine wpList_mapUpdate_MS (setTy_impl_Failing) (w0 := w) _ (b := w.heap.size) (S := x5_2) (s := (rdOf ByteArray.empty l1 x24_2)) rfl _ _ _ rfl rfl rfl rfl ?aO (sz_row HZ1.out x24_2) ?aB ?aL ?_; (case aO => exact (zi5 HO_5.out)); (case aB => exact zi2); (case aL => exact LMc16.out); intro w18 ho hb hg hat; rw [← Ny251.out] at ho; replace HB := Aside0.mk (hb); have HO253 := Aside0.mk (ho); clear HO_5; clear ho hb hg hat))
                      go_roundg k2
                      case measure => have := HJ2.out; have := HK2.out; omega
                      case rel => exact ⟨(y251), (wrap64 (x24_2 + 1)), zi3, H', ⟨by have := HJ2.out; have := HK2.out; omega⟩, ⟨zi5 HO253.out⟩, ⟨zi2⟩⟩
                    · rw [if_neg c16] at H
                      exact absurd H (by simp)
                  · rw [if_neg c15] at H
                    have c15b0 : decide (0 ≤ t250) = false := decide_eq_false c15
                    clear c15
                    have H' := Aside0.mk H
                    clear H
                    have p249 : 0 ≤ (x24_2 : Int) := of_decide_eq_true zi6
                    have q249 : x24_2 < (l1.length : Int) := of_decide_eq_true zi6
                    obtain ⟨ad249, e249, hx249_0⟩ := Kd.at_string HR1.out x24_2 p249 q249
                    cases e249
                    try (replace hx249_0 := (HB.out.cell (World.block_lt_of_cell? w _ hx249_0)).trans hx249_0)
                    replace p249 := eq_true p249
                    replace q249 := eq_true q249
                    go_wp2_with (first | ((with_reducible refine gate_callee (f := 62) rfl ?_); refine goesL_ (some 30) rfl rfl Try.func62 (by kernel_rfl) rfl #[.slice A0 l0.length c0, .string (rdOf ByteArray.empty l1 x24_2)] rfl zi0 ?_; (with_reducible refine (impl_unitOf.calls k2 _ _ l0 (rdOf ByteArray.empty l1 x24_2) t250 _ ?side1 ?side2 A14.out).mono ?_); (case side1 => exact zi1); (case side2 => exact HC0.out); rintro e w19 ⟨rfl, hb⟩; refine ⟨_, rfl, ?_⟩; replace HO_5 := Aside0.mk (MS_below (zi5 HO_5.out) hb); replace HB := Aside0.mk (below_step zi2 hb); (try clear hb); (try clear hb2); (try clear hk); (try clear hi)))
                    go_roundg k2
                    case measure => have := HJ2.out; have := HK2.out; omega
                    case rel => exact ⟨(x5_2), (wrap64 (x24_2 + 1)), zi3, H', ⟨by have := HJ2.out; have := HK2.out; omega⟩, ⟨zi5 HO_5.out⟩, ⟨zi2⟩⟩
                · rw [if_neg c13] at H
                  exact absurd H (by simp)
              · rw [if_neg c12] at H
                exact absurd H (by simp)
            · rw [if_neg c11] at H
              have c11b0 : decide (x24_2 < (l1.length : Int)) = false := decide_eq_false c11
              clear c11
              have H' := Aside0.mk H
              clear H
              go_wp2
              go_loopg [8] k2 (fun kq v8 w' => ∃ (x5_3 : List ByteArray) (x8_3 : Bool), v8 = .bool x8_3 ∧ Aside0 (impl_Failing.l1 kq l0 x5_3 x8_3 = some r) ∧ Aside0 (kq ≤ k2) ∧ Aside0 (MS Try.prog 9 4 w' w.heap.size v247 x5_3) ∧ Aside0 (Below w.heap.size w w'))
              case atStart => exact ⟨(x5_2), (true), zi3, H', ⟨Nat.le_refl _⟩, ⟨zi5 HO_5.out⟩, ⟨zi2⟩⟩
              case round =>
                clear H'
                try clear c1
                try clear c2
                try clear p2
                try clear q2
                try clear hx2
                try clear c5
                try clear c6
                try clear p6
                try clear c8
                try clear c11
                try clear c11b0
                try clear c12
                try clear c12b0
                try clear c13
                try clear c13b0
                try clear c15
                try clear c15b0
                try clear c16
                try clear hx249_0
                try clear p2
                try clear p249
                try clear q249
                obtain ⟨x5_3, x8_3, rfl, HA, HK3, HO_5, HB⟩ := hrel
                cases gk with
                | zero => exact absurd HA.out (by simp [impl_Failing.l1])
                | succ k3 =>
                  have H := HA.out
                  clear HA
                  simp only [impl_Failing.l1] at H
                  by_cases c20 : x8_3 = true
                  · subst c20
                    have H1 : (impl_Failing.l2 k3 l0 x5_3 false l0 (l0.length : Int) 0) = some r := by rw [if_pos rfl] at H; exact H
                    clear H
                    have H := H1
                    clear H1
                    have H' := Aside0.mk H
                    clear H
                    go_wp2
                    go_loopg [8, 38] k3 (fun kq v8 v38 w' => ∃ (x5_4 : List ByteArray) (x8_4 : Bool) (x38_4 : Int), v8 = .bool x8_4 ∧ v38 = .int .i64 x38_4 ∧ Aside0 (impl_Failing.l2 kq l0 x5_4 x8_4 l0 (l0.length : Int) x38_4 = some r) ∧ Aside0 (kq ≤ k3) ∧ Aside0 (MS Try.prog 9 4 w' w.heap.size v247 x5_4) ∧ Aside0 (Below w.heap.size w w'))
                    case atStart => exact ⟨(x5_3), (false), (0), zi3, zi3, H', ⟨Nat.le_refl _⟩, ⟨zi5 HO_5.out⟩, ⟨zi2⟩⟩
                    case round =>
                      clear H'
                      try clear c1
                      try clear c2
                      try clear p2
                      try clear q2
                      try clear hx2
                      try clear c5
                      try clear c6
                      try clear p6
                      try clear c8
                      try clear c11
                      try clear c11b0
                      try clear c12
                      try clear c12b0
                      try clear c13
                      try clear c13b0
                      try clear c15
                      try clear c15b0
                      try clear c16
                      try clear c20
                      try clear hx249_0
                      try clear p2
                      try clear p249
                      try clear p6
                      try clear q2
                      try clear q249
                      obtain ⟨x5_4, x8_4, x38_4, rfl, rfl, HA, HK4, HO_5, HB⟩ := hrel
                      cases gk with
                      | zero => exact absurd HA.out (by simp [impl_Failing.l2])
                      | succ k4 =>
                        have H := HA.out
                        clear HA
                        simp only [impl_Failing.l2] at H
                        by_cases c21 : x38_4 < (l0.length : Int)
                        · rw [if_pos c21] at H
                          have c21b0 : decide (x38_4 < (l0.length : Int)) = true := decide_eq_true c21
                          clear c21
                          by_cases c22 : 0 ≤ x38_4
                          · rw [if_pos c22] at H
                            have c22b0 : decide (0 ≤ x38_4) = true := decide_eq_true c22
                            clear c22
                            by_cases c23 : x38_4 < (l0.length : Int)
                            · rw [if_pos c23] at H
                              have c23b0 : decide (x38_4 < (l0.length : Int)) = true := decide_eq_true c23
                              clear c23
                              replace H := Option.bind_eq_some_iff.mp H
                              obtain ⟨t259, A240, H⟩ := H
                              replace H : (if t259 = true then (impl_Failing.l2 k4 l0 x5_4 x8_4 l0 (l0.length : Int) (wrap64 (x38_4 + 1))) else (impl_Failing.l3 k4 l0 x5_4 x8_4 l0 (l0.length : Int) x38_4 ((rd_T55 l0 x38_4).f2) (((rd_T55 l0 x38_4).f2).length : Int) 0 ((rd_T55 l0 x38_4).f0) ((rd_T55 l0 x38_4).f1) ((rd_T55 l0 x38_4).f2) ((rd_T55 l0 x38_4).f3) ((rd_T55 l0 x38_4).f4))) = some r := H
                              have A24 := Aside0.mk A240
                              clear A240
                              by_cases c25 : t259 = true
                              · subst c25
                                have H1 : (impl_Failing.l2 k4 l0 x5_4 x8_4 l0 (l0.length : Int) (wrap64 (x38_4 + 1))) = some r := by rw [if_pos rfl] at H; exact H
                                clear H
                                have H := H1
                                clear H1
                                have H' := Aside0.mk H
                                clear H
                                have p257 : 0 ≤ (x38_4 : Int) := of_decide_eq_true zi6
                                have q257 : x38_4 < (l0.length : Int) := of_decide_eq_true zi6
                                obtain ⟨ad257, A257_1, c257_1, A257_2, c257_2, e257, hx257_0, hx257_1, hx257_2, hx257_3, hx257_4, hl257_1, hi257_1, hl257_2, hi257_2⟩ := at_T55 HR0.out x38_4 p257 q257
                                cases e257
                                try (replace hx257_0 := (HB.out.cell (World.block_lt_of_cell? w _ hx257_0)).trans hx257_0)
                                try (replace hx257_1 := (HB.out.cell (World.block_lt_of_cell? w _ hx257_1)).trans hx257_1)
                                try (replace hx257_2 := (HB.out.cell (World.block_lt_of_cell? w _ hx257_2)).trans hx257_2)
                                try (replace hx257_3 := (HB.out.cell (World.block_lt_of_cell? w _ hx257_3)).trans hx257_3)
                                try (replace hx257_4 := (HB.out.cell (World.block_lt_of_cell? w _ hx257_4)).trans hx257_4)
                                have HR257_1 := Aside0.mk hi257_1
                                have HC257_1 := Aside0.mk hl257_1
                                clear hi257_1 hl257_1
                                have HR257_2 := Aside0.mk hi257_2
                                have HC257_2 := Aside0.mk hl257_2
                                clear hi257_2 hl257_2
                                replace p257 := eq_true p257
                                replace q257 := eq_true q257
                                go_wp2_with (first | ((with_reducible refine gate_dst (N := 10) rfl ?_); (try (refine gate_guard (by rfl) ?_; dsimp only)); refine box_event ?hg (N := 10) ?hd (cs := #[.string (⟨#[]⟩ : ByteArray), .slice none 0 0, .slice none 0 0, .string (⟨#[]⟩ : ByteArray), .bool false]) (t := 55) ?hr ?_; (case hd => rfl); (case hg => rfl); (case hr => first | (go_simp; done) | (go_simp; rfl)); intro gb258 hg w26 hbox hb; replace HO_5 := Aside0.mk (MS_below (zi5 HO_5.out) hb); have BK258 := Aside0.mk (hbox); have GW258 := Aside0.mk ((by rw [hg]; exact (below_size zi2) : w.heap.size ≤ gb258)); have GE258 := Aside0.mk ((by rw [hg]; exact (below_size zi2) : w.heap.size ≤ gb258)); replace HB := Aside0.mk (below_step zi2 hb); clear hb hbox hg; have hcz27_0 : w26.cell? ⟨gb258, 0, none⟩ = some (.string (⟨#[]⟩ : ByteArray)) := (blk_cell BK258.out 0).trans rfl; have hcz27_1 : w26.cell? ⟨gb258, 1, none⟩ = some (.slice none 0 0) := (blk_cell BK258.out 1).trans rfl; have hcz27_2 : w26.cell? ⟨gb258, 2, none⟩ = some (.slice none 0 0) := (blk_cell BK258.out 2).trans rfl; have hcz27_3 : w26.cell? ⟨gb258, 3, none⟩ = some (.string (⟨#[]⟩ : ByteArray)) := (blk_cell BK258.out 3).trans rfl; have hcz27_4 : w26.cell? ⟨gb258, 4, none⟩ = some (.bool false) := (blk_cell BK258.out 4).trans rfl; have hfz27_0 := blk_frozen BK258.out 0; have hfz27_1 := blk_frozen BK258.out 1; have hfz27_2 := blk_frozen BK258.out 2; have hfz27_3 := blk_frozen BK258.out 3; have hfz27_4 := blk_frozen BK258.out 4) | (at_lookup; (try (refine gate_guard (by rfl) ?_; dsimp only)); refine wpList_lookup_MS (setTy_impl_Failing) _ (s := ((rd_T55 l0 x38_4).f0)) (S := x5_4) (c := true) (b := w.heap.size) rfl _ _ rfl rfl rfl ?aO (sz_name HZ0.out x38_4) A24.out ?_; (case aO => ((with_reducible repeat (first | apply MS_alloc | apply MS_drewN | apply MS_drew)); exact (MS_drop (MS_far ⟨gb258, 4, none⟩ (MS_far ⟨gb258, 3, none⟩ (MS_far ⟨gb258, 2, none⟩ (MS_far ⟨gb258, 1, none⟩ (MS_far ⟨gb258, 0, none⟩ (MS_types HO_5.out BK258.out) (.string ((rd_T55 l0 x38_4).f0))) (.slice A257_1 ((rd_T55 l0 x38_4).f1).length c257_1)) (.slice A257_2 ((rd_T55 l0 x38_4).f2).length c257_2)) (.string ((rd_T55 l0 x38_4).f3))) (.bool ((rd_T55 l0 x38_4).f4))))))))
                                go_roundg k4
                                case measure => have := HJ2.out; have := HK2.out; have := HK3.out; have := HK4.out; omega
                                case rel => exact ⟨(x5_4), (x8_4), (wrap64 (x38_4 + 1)), zi3, zi3, H', ⟨zi7⟩, ⟨zi8⟩, ⟨zi9⟩⟩
                              · replace c25 := Bool.eq_false_iff.mpr c25
                                subst c25
                                have H1 : (impl_Failing.l3 k4 l0 x5_4 x8_4 l0 (l0.length : Int) x38_4 ((rd_T55 l0 x38_4).f2) (((rd_T55 l0 x38_4).f2).length : Int) 0 ((rd_T55 l0 x38_4).f0) ((rd_T55 l0 x38_4).f1) ((rd_T55 l0 x38_4).f2) ((rd_T55 l0 x38_4).f3) ((rd_T55 l0 x38_4).f4)) = some r := by rw [if_neg (show ¬ (false = true) by decide)] at H; exact H
                                clear H
                                have H := H1
                                clear H1
                                have H' := Aside0.mk H
                                clear H
                                have p257 : 0 ≤ (x38_4 : Int) := of_decide_eq_true zi6
                                have q257 : x38_4 < (l0.length : Int) := of_decide_eq_true zi6
                                obtain ⟨ad257, A257_1, c257_1, A257_2, c257_2, e257, hx257_0, hx257_1, hx257_2, hx257_3, hx257_4, hl257_1, hi257_1, hl257_2, hi257_2⟩ := at_T55 HR0.out x38_4 p257 q257
                                cases e257
                                try (replace hx257_0 := (HB.out.cell (World.block_lt_of_cell? w _ hx257_0)).trans hx257_0)
                                try (replace hx257_1 := (HB.out.cell (World.block_lt_of_cell? w _ hx257_1)).trans hx257_1)
                                try (replace hx257_2 := (HB.out.cell (World.block_lt_of_cell? w _ hx257_2)).trans hx257_2)
                                try (replace hx257_3 := (HB.out.cell (World.block_lt_of_cell? w _ hx257_3)).trans hx257_3)
                                try (replace hx257_4 := (HB.out.cell (World.block_lt_of_cell? w _ hx257_4)).trans hx257_4)
                                have HR257_1 := Aside0.mk hi257_1
                                have HC257_1 := Aside0.mk hl257_1
                                clear hi257_1 hl257_1
                                have HR257_2 := Aside0.mk hi257_2
                                have HC257_2 := Aside0.mk hl257_2
                                clear hi257_2 hl257_2
                                replace p257 := eq_true p257
                                replace q257 := eq_true q257
                                go_wp2_with (first | ((with_reducible refine gate_dst (N := 10) rfl ?_); (try (refine gate_guard (by rfl) ?_; dsimp only)); refine box_event ?hg (N := 10) ?hd (cs := #[.string (⟨#[]⟩ : ByteArray), .slice none 0 0, .slice none 0 0, .string (⟨#[]⟩ : ByteArray), .bool false]) (t := 55) ?hr ?_; (case hd => rfl); (case hg => rfl); (case hr => first | (go_simp; done) | (go_simp; rfl)); intro gb258 hg w29 hbox hb; replace HO_5 := Aside0.mk (MS_below (zi5 HO_5.out) hb); have BK258 := Aside0.mk (hbox); have GW258 := Aside0.mk ((by rw [hg]; exact (below_size zi2) : w.heap.size ≤ gb258)); have GE258 := Aside0.mk ((by rw [hg]; exact (below_size zi2) : w.heap.size ≤ gb258)); replace HB := Aside0.mk (below_step zi2 hb); clear hb hbox hg; have hcz30_0 : w29.cell? ⟨gb258, 0, none⟩ = some (.string (⟨#[]⟩ : ByteArray)) := (blk_cell BK258.out 0).trans rfl; have hcz30_1 : w29.cell? ⟨gb258, 1, none⟩ = some (.slice none 0 0) := (blk_cell BK258.out 1).trans rfl; have hcz30_2 : w29.cell? ⟨gb258, 2, none⟩ = some (.slice none 0 0) := (blk_cell BK258.out 2).trans rfl; have hcz30_3 : w29.cell? ⟨gb258, 3, none⟩ = some (.string (⟨#[]⟩ : ByteArray)) := (blk_cell BK258.out 3).trans rfl; have hcz30_4 : w29.cell? ⟨gb258, 4, none⟩ = some (.bool false) := (blk_cell BK258.out 4).trans rfl; have hfz30_0 := blk_frozen BK258.out 0; have hfz30_1 := blk_frozen BK258.out 1; have hfz30_2 := blk_frozen BK258.out 2; have hfz30_3 := blk_frozen BK258.out 3; have hfz30_4 := blk_frozen BK258.out 4) | (at_lookup; (try (refine gate_guard (by rfl) ?_; dsimp only)); refine wpList_lookup_MS (setTy_impl_Failing) _ (s := ((rd_T55 l0 x38_4).f0)) (S := x5_4) (c := false) (b := w.heap.size) rfl _ _ rfl rfl rfl ?aO (sz_name HZ0.out x38_4) A24.out ?_; (case aO => ((with_reducible repeat (first | apply MS_alloc | apply MS_drewN | apply MS_drew)); exact (MS_drop (MS_far ⟨gb258, 4, none⟩ (MS_far ⟨gb258, 3, none⟩ (MS_far ⟨gb258, 2, none⟩ (MS_far ⟨gb258, 1, none⟩ (MS_far ⟨gb258, 0, none⟩ (MS_types HO_5.out BK258.out) (.string ((rd_T55 l0 x38_4).f0))) (.slice A257_1 ((rd_T55 l0 x38_4).f1).length c257_1)) (.slice A257_2 ((rd_T55 l0 x38_4).f2).length c257_2)) (.string ((rd_T55 l0 x38_4).f3))) (.bool ((rd_T55 l0 x38_4).f4))))))))
                                go_loopg [8, 49] k4 (fun kq v8 v49 w' => ∃ (x5_5 : List ByteArray) (x8_5 : Bool) (x49_5 : Int), v8 = .bool x8_5 ∧ v49 = .int .i64 x49_5 ∧ Aside0 (impl_Failing.l3 kq l0 x5_5 x8_5 l0 (l0.length : Int) x38_4 ((rd_T55 l0 x38_4).f2) (((rd_T55 l0 x38_4).f2).length : Int) x49_5 ((rd_T55 l0 x38_4).f0) ((rd_T55 l0 x38_4).f1) ((rd_T55 l0 x38_4).f2) ((rd_T55 l0 x38_4).f3) ((rd_T55 l0 x38_4).f4) = some r) ∧ Aside0 (kq ≤ k4) ∧ Aside0 (MS Try.prog 9 4 w' w.heap.size v247 x5_5) ∧ Aside0 (w'.heap[gb258]? = some (.cells #[.string ((rd_T55 l0 x38_4).f0), (.slice A257_1 ((rd_T55 l0 x38_4).f1).length c257_1), (.slice A257_2 ((rd_T55 l0 x38_4).f2).length c257_2), .string ((rd_T55 l0 x38_4).f3), .bool ((rd_T55 l0 x38_4).f4)] 55 (0, 0))) ∧ Aside0 (Below w.heap.size w w'))
                                case atStart => exact ⟨(x5_4), (x8_4), (0), zi3, zi3, H', ⟨Nat.le_refl _⟩, ⟨zi8⟩, ⟨by (with_reducible repeat (first | refine blk_drewN ?_ _ | refine blk_drew ?_ | refine blk_alloc ?_ _)); refine blk_put (cs := #[.string ((rd_T55 l0 x38_4).f0), .slice A257_1 ((rd_T55 l0 x38_4).f1).length c257_1, .slice A257_2 ((rd_T55 l0 x38_4).f2).length c257_2, .string ((rd_T55 l0 x38_4).f3), .bool false]) ?_ 4 _ rfl; (with_reducible repeat (first | refine blk_drewN ?_ _ | refine blk_drew ?_ | refine blk_alloc ?_ _)); refine blk_put (cs := #[.string ((rd_T55 l0 x38_4).f0), .slice A257_1 ((rd_T55 l0 x38_4).f1).length c257_1, .slice A257_2 ((rd_T55 l0 x38_4).f2).length c257_2, .string (⟨#[]⟩ : ByteArray), .bool false]) ?_ 3 _ rfl; (with_reducible repeat (first | refine blk_drewN ?_ _ | refine blk_drew ?_ | refine blk_alloc ?_ _)); refine blk_put (cs := #[.string ((rd_T55 l0 x38_4).f0), .slice A257_1 ((rd_T55 l0 x38_4).f1).length c257_1, .slice none 0 0, .string (⟨#[]⟩ : ByteArray), .bool false]) ?_ 2 _ rfl; (with_reducible repeat (first | refine blk_drewN ?_ _ | refine blk_drew ?_ | refine blk_alloc ?_ _)); refine blk_put (cs := #[.string ((rd_T55 l0 x38_4).f0), .slice none 0 0, .slice none 0 0, .string (⟨#[]⟩ : ByteArray), .bool false]) ?_ 1 _ rfl; (with_reducible repeat (first | refine blk_drewN ?_ _ | refine blk_drew ?_ | refine blk_alloc ?_ _)); refine blk_put (cs := #[.string (⟨#[]⟩ : ByteArray), .slice none 0 0, .slice none 0 0, .string (⟨#[]⟩ : ByteArray), .bool false]) ?_ 0 _ rfl; (with_reducible repeat (first | refine blk_drewN ?_ _ | refine blk_drew ?_ | refine blk_alloc ?_ _)); exact BK258.out⟩, ⟨zi9⟩⟩
                                case round =>
                                  clear H'
                                  try clear c1
                                  try clear c2
                                  try clear p2
                                  try clear q2
                                  try clear hx2
                                  try clear c5
                                  try clear c6
                                  try clear p6
                                  try clear c8
                                  try clear c11
                                  try clear c11b0
                                  try clear c12
                                  try clear c12b0
                                  try clear c13
                                  try clear c13b0
                                  try clear c15
                                  try clear c15b0
                                  try clear c16
                                  try clear c20
                                  try clear c21
                                  try clear c21b0
                                  try clear c22
                                  try clear c22b0
                                  try clear c23
                                  try clear c23b0
                                  try clear p24
                                  try clear q24
                                  try clear hx24
                                  try clear c25
                                  try clear p25
                                  try clear q25
                                  try clear hx25
                                  try clear c29
                                  try clear hcz27_0
                                  try clear hcz27_1
                                  try clear hcz27_2
                                  try clear hcz27_3
                                  try clear hcz27_4
                                  try clear hcz30_0
                                  try clear hcz30_1
                                  try clear hcz30_2
                                  try clear hcz30_3
                                  try clear hcz30_4
                                  try clear hfz27_0
                                  try clear hfz27_1
                                  try clear hfz27_2
                                  try clear hfz27_3
                                  try clear hfz27_4
                                  try clear hfz30_0
                                  try clear hfz30_1
                                  try clear hfz30_2
                                  try clear hfz30_3
                                  try clear hfz30_4
                                  try clear hx249_0
                                  try clear hx257_0
                                  try clear hx257_1
                                  try clear hx257_2
                                  try clear hx257_3
                                  try clear hx257_4
                                  try clear p2
                                  try clear p249
                                  try clear p257
                                  try clear p6
                                  try clear q2
                                  try clear q249
                                  try clear q257
                                  obtain ⟨x5_5, x8_5, x49_5, rfl, rfl, HA, HK5, HO_5, BK258, HB⟩ := hrel
                                  cases gk with
                                  | zero => exact absurd HA.out (by simp [impl_Failing.l3])
                                  | succ k5 =>
                                    have H := HA.out
                                    clear HA
                                    simp only [impl_Failing.l3] at H
                                    by_cases c32 : x49_5 < (((rd_T55 l0 x38_4).f2).length : Int)
                                    · rw [if_pos c32] at H
                                      have c32b0 : decide (x49_5 < (((rd_T55 l0 x38_4).f2).length : Int)) = true := decide_eq_true c32
                                      clear c32
                                      by_cases c33 : 0 ≤ x49_5
                                      · rw [if_pos c33] at H
                                        have c33b0 : decide (0 ≤ x49_5) = true := decide_eq_true c33
                                        clear c33
                                        by_cases c34 : x49_5 < (((rd_T55 l0 x38_4).f2).length : Int)
                                        · rw [if_pos c34] at H
                                          have c34b0 : decide (x49_5 < (((rd_T55 l0 x38_4).f2).length : Int)) = true := decide_eq_true c34
                                          clear c34
                                          replace H := Option.bind_eq_some_iff.mp H
                                          obtain ⟨t261, A350, H⟩ := H
                                          replace H : (if t261 < 0 then (if x5_5.length < 8796093022208 then (impl_Failing.l3 k5 l0 (x5_5 ++ [((rd_T55 l0 x38_4).f0)]) true l0 (l0.length : Int) x38_4 ((rd_T55 l0 x38_4).f2) (((rd_T55 l0 x38_4).f2).length : Int) (wrap64 (x49_5 + 1)) ((rd_T55 l0 x38_4).f0) ((rd_T55 l0 x38_4).f1) ((rd_T55 l0 x38_4).f2) ((rd_T55 l0 x38_4).f3) ((rd_T55 l0 x38_4).f4)) else (none)) else ((some (hasW x5_5 (rdOf ByteArray.empty ((rd_T55 l0 x38_4).f2) x49_5))).bind fun t265 => (if t265 = true then (if x5_5.length < 8796093022208 then (impl_Failing.l3 k5 l0 (x5_5 ++ [((rd_T55 l0 x38_4).f0)]) true l0 (l0.length : Int) x38_4 ((rd_T55 l0 x38_4).f2) (((rd_T55 l0 x38_4).f2).length : Int) (wrap64 (x49_5 + 1)) ((rd_T55 l0 x38_4).f0) ((rd_T55 l0 x38_4).f1) ((rd_T55 l0 x38_4).f2) ((rd_T55 l0 x38_4).f3) ((rd_T55 l0 x38_4).f4)) else (none)) else (impl_Failing.l3 k5 l0 x5_5 x8_5 l0 (l0.length : Int) x38_4 ((rd_T55 l0 x38_4).f2) (((rd_T55 l0 x38_4).f2).length : Int) (wrap64 (x49_5 + 1)) ((rd_T55 l0 x38_4).f0) ((rd_T55 l0 x38_4).f1) ((rd_T55 l0 x38_4).f2) ((rd_T55 l0 x38_4).f3) ((rd_T55 l0 x38_4).f4))))) = some r := H
                                          have A35 := Aside0.mk A350
                                          clear A350
                                          by_cases c36 : t261 < 0
                                          · rw [if_pos c36] at H
                                            have c36b0 : decide (t261 < 0) = true := decide_eq_true c36
                                            clear c36
                                            by_cases c37 : x5_5.length < 8796093022208
                                            · rw [if_pos c37] at H
                                              have LMc37 := Aside0.mk c37
                                              clear c37
                                              obtain ⟨y262, hy262⟩ : ∃ y_ : List ByteArray, y_ = (x5_5 ++ [((rd_T55 l0 x38_4).f0)]) := ⟨_, rfl⟩
                                              replace H : (impl_Failing.l3 k5 l0 y262 true l0 (l0.length : Int) x38_4 ((rd_T55 l0 x38_4).f2) (((rd_T55 l0 x38_4).f2).length : Int) (wrap64 (x49_5 + 1)) ((rd_T55 l0 x38_4).f0) ((rd_T55 l0 x38_4).f1) ((rd_T55 l0 x38_4).f2) ((rd_T55 l0 x38_4).f3) ((rd_T55 l0 x38_4).f4)) = some r := by first | (rw [hy262]; with_reducible exact H) | (have H2_ := (Option.bind_some _ _).symm.trans H; rw [hy262]; with_reducible exact H2_) | (have H2_ := (Option.bind_some _ _).symm.trans H; with_reducible exact H2_) | with_reducible exact H | (rw [hy262]; exact H) | exact H
                                              have Ny262 := Aside0.mk hy262
                                              clear hy262
                                              have H' := Aside0.mk H
                                              clear H
                                              have p260 : 0 ≤ (x49_5 : Int) := of_decide_eq_true zi6
                                              have q260 : x49_5 < (((rd_T55 l0 x38_4).f2).length : Int) := of_decide_eq_true zi6
                                              obtain ⟨ad260, e260, hx260_0⟩ := Kd.at_string HR257_2.out x49_5 p260 q260
                                              cases e260
                                              try (replace hx260_0 := (HB.out.cell (World.block_lt_of_cell? w _ hx260_0)).trans hx260_0)
                                              replace p260 := eq_true p260
                                              replace q260 := eq_true q260
                                              go_wp2_with (first | ((with_reducible refine gate_callee (f := 62) rfl ?_); refine goesL_ (some 55) rfl rfl Try.func62 (by kernel_rfl) rfl #[.slice (some ad257) l0.length c0, .string (rdOf ByteArray.empty ((rd_T55 l0 x38_4).f2) x49_5)] rfl zi0 ?_; (with_reducible refine (impl_unitOf.calls k5 _ _ l0 (rdOf ByteArray.empty ((rd_T55 l0 x38_4).f2) x49_5) t261 _ ?side1 ?side2 A35.out).mono ?_); (case side1 => exact zi1); (case side2 => exact HC0.out); rintro e w38 ⟨rfl, hb⟩; refine ⟨_, rfl, ?_⟩; replace HO_5 := Aside0.mk (MS_below (zi5 HO_5.out) hb); replace BK258 := Aside0.mk (blk_below (g := gb258) (o := .cells #[.string ((rd_T55 l0 x38_4).f0), .slice A257_1 ((rd_T55 l0 x38_4).f1).length c257_1, .slice (some ad260) ((rd_T55 l0 x38_4).f2).length c257_2, .string ((rd_T55 l0 x38_4).f3), .bool ((rd_T55 l0 x38_4).f4)] 55 (0, 0)) zi10 hb); replace HB := Aside0.mk (below_step zi9 hb); (try clear hb); (try clear hb2); (try clear hk); (try clear hi); have hcz39_0 : w38.cell? ⟨gb258, 0, none⟩ = some (.string ((rd_T55 l0 x38_4).f0)) := (blk_cell BK258.out 0).trans rfl; have hcz39_1 : w38.cell? ⟨gb258, 1, none⟩ = some (.slice A257_1 ((rd_T55 l0 x38_4).f1).length c257_1) := (blk_cell BK258.out 1).trans rfl; have hcz39_2 : w38.cell? ⟨gb258, 2, none⟩ = some (.slice (some ad260) ((rd_T55 l0 x38_4).f2).length c257_2) := (blk_cell BK258.out 2).trans rfl; have hcz39_3 : w38.cell? ⟨gb258, 3, none⟩ = some (.string ((rd_T55 l0 x38_4).f3)) := (blk_cell BK258.out 3).trans rfl; have hcz39_4 : w38.cell? ⟨gb258, 4, none⟩ = some (.bool ((rd_T55 l0 x38_4).f4)) := (blk_cell BK258.out 4).trans rfl; have hfz39_0 := blk_frozen BK258.out 0; have hfz39_1 := blk_frozen BK258.out 1; have hfz39_2 := blk_frozen BK258.out 2; have hfz39_3 := blk_frozen BK258.out 3; have hfz39_4 := blk_frozen BK258.out 4) | (at_mapUpdate; (try (refine gate_guard (by rfl) ?_; dsimp only)); refine wpList_mapUpdate_MS (setTy_impl_Failing) (w0 := w) _ (b := w.heap.size) (S := x5_5) (s := ((rd_T55 l0 x38_4).f0)) rfl _ _ _ rfl rfl rfl rfl ?aO (sz_name HZ0.out x38_4) ?aB ?aL ?_; (case aO => exact (zi5 HO_5.out)); (case aB => exact zi9); (case aL => exact LMc37.out); intro w40 ho hb hg hat; rw [← Ny262.out] at ho; replace BK258 := Aside0.mk (hg gb258 _ _ zi10); replace HB := Aside0.mk (hb); have HO264 := Aside0.mk (ho); clear HO_5; clear ho hb hg hat))
                                              go_roundg k5
                                              case measure => have := HJ2.out; have := HK2.out; have := HK3.out; have := HK4.out; have := HK5.out; omega
                                              case rel => exact ⟨(y262), (true), (wrap64 (x49_5 + 1)), zi3, zi3, H', ⟨zi11⟩, ⟨zi5 HO264.out⟩, ⟨zi10⟩, ⟨zi9⟩⟩
                                            · rw [if_neg c37] at H
                                              exact absurd H (by simp)
                                          · rw [if_neg c36] at H
                                            have c36b0 : decide (t261 < 0) = false := decide_eq_false c36
                                            clear c36
                                            replace H := Option.bind_eq_some_iff.mp H
                                            obtain ⟨t265, A410, H⟩ := H
                                            replace H : (if t265 = true then (if x5_5.length < 8796093022208 then (impl_Failing.l3 k5 l0 (x5_5 ++ [((rd_T55 l0 x38_4).f0)]) true l0 (l0.length : Int) x38_4 ((rd_T55 l0 x38_4).f2) (((rd_T55 l0 x38_4).f2).length : Int) (wrap64 (x49_5 + 1)) ((rd_T55 l0 x38_4).f0) ((rd_T55 l0 x38_4).f1) ((rd_T55 l0 x38_4).f2) ((rd_T55 l0 x38_4).f3) ((rd_T55 l0 x38_4).f4)) else (none)) else (impl_Failing.l3 k5 l0 x5_5 x8_5 l0 (l0.length : Int) x38_4 ((rd_T55 l0 x38_4).f2) (((rd_T55 l0 x38_4).f2).length : Int) (wrap64 (x49_5 + 1)) ((rd_T55 l0 x38_4).f0) ((rd_T55 l0 x38_4).f1) ((rd_T55 l0 x38_4).f2) ((rd_T55 l0 x38_4).f3) ((rd_T55 l0 x38_4).f4))) = some r := H
                                            have A41 := Aside0.mk A410
                                            clear A410
                                            by_cases c42 : t265 = true
                                            · subst c42
                                              have H1 : (if x5_5.length < 8796093022208 then (impl_Failing.l3 k5 l0 (x5_5 ++ [((rd_T55 l0 x38_4).f0)]) true l0 (l0.length : Int) x38_4 ((rd_T55 l0 x38_4).f2) (((rd_T55 l0 x38_4).f2).length : Int) (wrap64 (x49_5 + 1)) ((rd_T55 l0 x38_4).f0) ((rd_T55 l0 x38_4).f1) ((rd_T55 l0 x38_4).f2) ((rd_T55 l0 x38_4).f3) ((rd_T55 l0 x38_4).f4)) else (none)) = some r := by rw [if_pos rfl] at H; exact H
                                              clear H
                                              have H := H1
                                              clear H1
                                              by_cases c43 : x5_5.length < 8796093022208
                                              · rw [if_pos c43] at H
                                                have LMc43 := Aside0.mk c43
                                                clear c43
                                                obtain ⟨y266, hy266⟩ : ∃ y_ : List ByteArray, y_ = (x5_5 ++ [((rd_T55 l0 x38_4).f0)]) := ⟨_, rfl⟩
                                                replace H : (impl_Failing.l3 k5 l0 y266 true l0 (l0.length : Int) x38_4 ((rd_T55 l0 x38_4).f2) (((rd_T55 l0 x38_4).f2).length : Int) (wrap64 (x49_5 + 1)) ((rd_T55 l0 x38_4).f0) ((rd_T55 l0 x38_4).f1) ((rd_T55 l0 x38_4).f2) ((rd_T55 l0 x38_4).f3) ((rd_T55 l0 x38_4).f4)) = some r := by first | (rw [hy266]; with_reducible exact H) | (have H2_ := (Option.bind_some _ _).symm.trans H; rw [hy266]; with_reducible exact H2_) | (have H2_ := (Option.bind_some _ _).symm.trans H; with_reducible exact H2_) | with_reducible exact H | (rw [hy266]; exact H) | exact H
                                                have Ny266 := Aside0.mk hy266
                                                clear hy266
                                                have H' := Aside0.mk H
                                                clear H
                                                have p260 : 0 ≤ (x49_5 : Int) := of_decide_eq_true zi6
                                                have q260 : x49_5 < (((rd_T55 l0 x38_4).f2).length : Int) := of_decide_eq_true zi6
                                                obtain ⟨ad260, e260, hx260_0⟩ := Kd.at_string HR257_2.out x49_5 p260 q260
                                                cases e260
                                                try (replace hx260_0 := (HB.out.cell (World.block_lt_of_cell? w _ hx260_0)).trans hx260_0)
                                                replace p260 := eq_true p260
                                                replace q260 := eq_true q260
                                                go_wp2_with (first | ((with_reducible refine gate_callee (f := 62) rfl ?_); refine goesL_ (some 55) rfl rfl Try.func62 (by kernel_rfl) rfl #[.slice (some ad257) l0.length c0, .string (rdOf ByteArray.empty ((rd_T55 l0 x38_4).f2) x49_5)] rfl zi0 ?_; (with_reducible refine (impl_unitOf.calls k5 _ _ l0 (rdOf ByteArray.empty ((rd_T55 l0 x38_4).f2) x49_5) t261 _ ?side1 ?side2 A35.out).mono ?_); (case side1 => exact zi1); (case side2 => exact HC0.out); rintro e w44 ⟨rfl, hb⟩; refine ⟨_, rfl, ?_⟩; replace HO_5 := Aside0.mk (MS_below (zi5 HO_5.out) hb); replace BK258 := Aside0.mk (blk_below (g := gb258) (o := .cells #[.string ((rd_T55 l0 x38_4).f0), .slice A257_1 ((rd_T55 l0 x38_4).f1).length c257_1, .slice (some ad260) ((rd_T55 l0 x38_4).f2).length c257_2, .string ((rd_T55 l0 x38_4).f3), .bool ((rd_T55 l0 x38_4).f4)] 55 (0, 0)) zi10 hb); replace HB := Aside0.mk (below_step zi9 hb); (try clear hb); (try clear hb2); (try clear hk); (try clear hi)) | (at_lookup; (try (refine gate_guard (by rfl) ?_; dsimp only)); refine wpList_lookup_MS (setTy_impl_Failing) _ (s := (rdOf ByteArray.empty ((rd_T55 l0 x38_4).f2) x49_5)) (S := x5_5) (c := true) (b := w.heap.size) rfl _ _ rfl rfl rfl ?aO (sz_need HZ0.out x38_4 x49_5) A41.out ?_; (case aO => ((with_reducible repeat (first | apply MS_alloc | apply MS_drewN | apply MS_drew)); exact HO_5.out)); have hcz46_0 : w44.cell? ⟨gb258, 0, none⟩ = some (.string ((rd_T55 l0 x38_4).f0)) := (blk_cell BK258.out 0).trans rfl; have hcz46_1 : w44.cell? ⟨gb258, 1, none⟩ = some (.slice A257_1 ((rd_T55 l0 x38_4).f1).length c257_1) := (blk_cell BK258.out 1).trans rfl; have hcz46_2 : w44.cell? ⟨gb258, 2, none⟩ = some (.slice (some ad260) ((rd_T55 l0 x38_4).f2).length c257_2) := (blk_cell BK258.out 2).trans rfl; have hcz46_3 : w44.cell? ⟨gb258, 3, none⟩ = some (.string ((rd_T55 l0 x38_4).f3)) := (blk_cell BK258.out 3).trans rfl; have hcz46_4 : w44.cell? ⟨gb258, 4, none⟩ = some (.bool ((rd_T55 l0 x38_4).f4)) := (blk_cell BK258.out 4).trans rfl; have hfz46_0 := blk_frozen BK258.out 0; have hfz46_1 := blk_frozen BK258.out 1; have hfz46_2 := blk_frozen BK258.out 2; have hfz46_3 := blk_frozen BK258.out 3; have hfz46_4 := blk_frozen BK258.out 4) | (at_mapUpdate; (try (refine gate_guard (by rfl) ?_; dsimp only)); refine wpList_mapUpdate_MS (setTy_impl_Failing) (w0 := w) _ (b := w.heap.size) (S := x5_5) (s := ((rd_T55 l0 x38_4).f0)) rfl _ _ _ rfl rfl rfl rfl ?aO (sz_name HZ0.out x38_4) ?aB ?aL ?_; (case aO => exact (zi5 HO_5.out)); (case aB => exact zi9); (case aL => exact LMc43.out); intro w47 ho hb hg hat; rw [← Ny266.out] at ho; replace BK258 := Aside0.mk (hg gb258 _ _ zi10); replace HB := Aside0.mk (hb); have HO268 := Aside0.mk (ho); clear HO_5; clear ho hb hg hat))
                                                go_roundg k5
                                                case measure => have := HJ2.out; have := HK2.out; have := HK3.out; have := HK4.out; have := HK5.out; omega
                                                case rel => exact ⟨(y266), (true), (wrap64 (x49_5 + 1)), zi3, zi3, H', ⟨zi11⟩, ⟨zi5 HO268.out⟩, ⟨zi10⟩, ⟨zi9⟩⟩
                                              · rw [if_neg c43] at H
                                                exact absurd H (by simp)
                                            · replace c42 := Bool.eq_false_iff.mpr c42
                                              subst c42
                                              have H1 : (impl_Failing.l3 k5 l0 x5_5 x8_5 l0 (l0.length : Int) x38_4 ((rd_T55 l0 x38_4).f2) (((rd_T55 l0 x38_4).f2).length : Int) (wrap64 (x49_5 + 1)) ((rd_T55 l0 x38_4).f0) ((rd_T55 l0 x38_4).f1) ((rd_T55 l0 x38_4).f2) ((rd_T55 l0 x38_4).f3) ((rd_T55 l0 x38_4).f4)) = some r := by rw [if_neg (show ¬ (false = true) by decide)] at H; exact H
                                              clear H
                                              have H := H1
                                              clear H1
                                              have H' := Aside0.mk H
                                              clear H
                                              have p260 : 0 ≤ (x49_5 : Int) := of_decide_eq_true zi6
                                              have q260 : x49_5 < (((rd_T55 l0 x38_4).f2).length : Int) := of_decide_eq_true zi6
                                              obtain ⟨ad260, e260, hx260_0⟩ := Kd.at_string HR257_2.out x49_5 p260 q260
                                              cases e260
                                              try (replace hx260_0 := (HB.out.cell (World.block_lt_of_cell? w _ hx260_0)).trans hx260_0)
                                              replace p260 := eq_true p260
                                              replace q260 := eq_true q260
                                              go_wp2_with (first | ((with_reducible refine gate_callee (f := 62) rfl ?_); refine goesL_ (some 55) rfl rfl Try.func62 (by kernel_rfl) rfl #[.slice (some ad257) l0.length c0, .string (rdOf ByteArray.empty ((rd_T55 l0 x38_4).f2) x49_5)] rfl zi0 ?_; (with_reducible refine (impl_unitOf.calls k5 _ _ l0 (rdOf ByteArray.empty ((rd_T55 l0 x38_4).f2) x49_5) t261 _ ?side1 ?side2 A35.out).mono ?_); (case side1 => exact zi1); (case side2 => exact HC0.out); rintro e w48 ⟨rfl, hb⟩; refine ⟨_, rfl, ?_⟩; replace HO_5 := Aside0.mk (MS_below (zi5 HO_5.out) hb); replace BK258 := Aside0.mk (blk_below (g := gb258) (o := .cells #[.string ((rd_T55 l0 x38_4).f0), .slice A257_1 ((rd_T55 l0 x38_4).f1).length c257_1, .slice (some ad260) ((rd_T55 l0 x38_4).f2).length c257_2, .string ((rd_T55 l0 x38_4).f3), .bool ((rd_T55 l0 x38_4).f4)] 55 (0, 0)) zi10 hb); replace HB := Aside0.mk (below_step zi9 hb); (try clear hb); (try clear hb2); (try clear hk); (try clear hi)) | (at_lookup; (try (refine gate_guard (by rfl) ?_; dsimp only)); refine wpList_lookup_MS (setTy_impl_Failing) _ (s := (rdOf ByteArray.empty ((rd_T55 l0 x38_4).f2) x49_5)) (S := x5_5) (c := false) (b := w.heap.size) rfl _ _ rfl rfl rfl ?aO (sz_need HZ0.out x38_4 x49_5) A41.out ?_; (case aO => ((with_reducible repeat (first | apply MS_alloc | apply MS_drewN | apply MS_drew)); exact HO_5.out))))
                                              go_roundg k5
                                              case measure => have := HJ2.out; have := HK2.out; have := HK3.out; have := HK4.out; have := HK5.out; omega
                                              case rel => exact ⟨(x5_5), (x8_5), (wrap64 (x49_5 + 1)), zi3, zi3, H', ⟨zi11⟩, ⟨zi5 HO_5.out⟩, ⟨zi10⟩, ⟨zi9⟩⟩
                                        · rw [if_neg c34] at H
                                          exact absurd H (by simp)
                                      · rw [if_neg c33] at H
                                        exact absurd H (by simp)
                                    · rw [if_neg c32] at H
                                      have c32b0 : decide (x49_5 < (((rd_T55 l0 x38_4).f2).length : Int)) = false := decide_eq_false c32
                                      clear c32
                                      have H' := Aside0.mk H
                                      clear H
                                      go_wp2
                                      go_roundg k5
                                      case measure => have := HJ2.out; have := HK2.out; have := HK3.out; have := HK4.out; have := HK5.out; omega
                                      case rel => exact ⟨(x5_5), (x8_5), (wrap64 (x38_4 + 1)), zi3, zi3, H', ⟨zi11⟩, ⟨zi5 HO_5.out⟩, ⟨zi9⟩⟩
                            · rw [if_neg c23] at H
                              exact absurd H (by simp)
                          · rw [if_neg c22] at H
                            exact absurd H (by simp)
                        · rw [if_neg c21] at H
                          have c21b0 : decide (x38_4 < (l0.length : Int)) = false := decide_eq_false c21
                          clear c21
                          have H' := Aside0.mk H
                          clear H
                          go_wp2
                          go_roundg k4
                          case measure => have := HJ2.out; have := HK2.out; have := HK3.out; have := HK4.out; omega
                          case rel => exact ⟨(x5_4), (x8_4), zi3, H', ⟨zi7⟩, ⟨zi5 HO_5.out⟩, ⟨zi2⟩⟩
                  · replace c20 := Bool.eq_false_iff.mpr c20
                    subst c20
                    have H1 : ((impl_sortedSet.f x5_3).bind fun t254 => (some t254)) = some r := by rw [if_neg (show ¬ (false = true) by decide)] at H; exact H
                    clear H
                    have H := H1
                    clear H1
                    replace H := Option.bind_eq_some_iff.mp H
                    obtain ⟨t254, A500, H⟩ := H
                    replace H : (some t254) = some r := H
                    have A50 := Aside0.mk A500
                    clear A500
                    obtain rfl := Option.some.inj H
                    go_wp2_with (first | (go_at_call 57; obtain ⟨g_, nn_, ev_, hown_, hln_⟩ := MS_keys HO_5.out; subst ev_; (with_reducible refine (impl_keysOf_calls g_ nn_ (setMap x5_3) t254 _ hown_ (Nat.le_trans hln_ (sorted_len A50.out)) (sorted_asc A50.out) (sorted_keyed A50.out)).mono ?_); clear hown_ hln_; rintro e w52 ⟨v255, rfl, ho0, hb⟩; have HO256 := Aside0.mk (Kd.R_lower (Kd.R_new' ho0 (MS_lt (zi5 HO_5.out))) (below_size zi2)); replace HO_5 := Aside0.mk (MS_below (zi5 HO_5.out) hb); replace HB := Aside0.mk (below_step zi2 hb); (try clear hb); (try clear hb2); (try clear hk); (try clear hi); (try clear ho0)))
                    go_ret
                    exact ⟨_, zi4, by (with_reducible repeat (first | apply Kd.R_alloc | apply Kd.R_drewN | apply Kd.R_drew)); exact Kd.R_mono HO256.out (fun _ hk => trivial), zi2⟩

/-! ### laws_big: function 38 -/
def laws_big.f (l0 : List Int) : Option (Bool) := some (decide ((l0.length : Int) > 1048576))
set_option maxHeartbeats 8000000 in
set_option maxRecDepth 100000 in
theorem laws_big.calls (A0 : Option Addr) (c0 : Nat) (l0 : List Int) (r : Bool) (w : World) (hr0 : Kd.C (Kd.int .u8) w A0 l0.length l0) (hc0 : l0.length ≤ c0) (h : laws_big.f l0 = some r) :
  Calls Try.prog 38 #[.slice A0 l0.length c0] w fun e w' => e = .returned (.bool r) ∧ Drawn0 w w' := by
 have HR0 := Aside0.mk hr0
 have HC0 := Aside0.mk hc0
 clear hr0 hc0
 have H : (some (decide ((l0.length : Int) > 1048576))) = some r := h
 clear h
 obtain rfl := Option.some.inj H
 go_enter Try.func38, Try.ntmps38
 go_wp2
 go_ret
 exact ⟨zi3, by repeat (first | exact Drawn0.refl _ | apply Drawn0.step)⟩

end Go.Proofs.Ytnahkojlamficaa.PFnFailing
