-- Laid by a program of this session: a turned copy of the kit's print, with contracts by hand beside.
import Derived.Test.YtbgnjnlecpdfaaaPFnRollBackx0
namespace Go.Proofs.Ytbgnjnlecpdfaaa.PFnRollBack
open Go.RowKit Go.Proofs.YtbgnjnlecpdfaaaW.PrintWords Go.Proofs.YtbgnjnlecpdfaaaW.PrintLast Go.Proofs.YtbgnjnlecpdfaaaW.PrintMore
theorem zbe0 {X : Prop} (h : X := by rfl) : X := h
theorem zbe1 {X : Prop} (h : X := by repeat (first | exact Drawn0.refl _ | apply Drawn0.step)) : X := h
theorem zbe2 {X : Prop} (h : X := by (with_reducible assumption)) : X := h
theorem zbe3 {X : Prop} (h : X := by have := hj.out.1; have := h0'.out; omega) : X := h
theorem zbe4 {X : Prop} (h : X := by have := hj.out.2.2.1; have := hlt'.out; omega) : X := h
theorem zbe5 {X : Prop} (h : X := by repeat ((with_reducible first | exact HB.out | apply below_alloc | apply pw_below_drewN | apply below_drew1))) : X := h
theorem zbe6 {X : Prop} (h : X := by have := hk.out.1; have := HN.out; have := hlt'.out; unfold wrap64; omega) : X := h
theorem zbe7 {X : Prop} (h : X := by (with_reducible repeat (apply Kd.R_drewN)); exact HQ.out) : X := h
attribute [local go_sem] max2_int min2_int max_two min_two max_three min_three max_four min_four   -- for this text's walks alone
set_option linter.unusedVariables false
set_option linter.unusedSimpArgs false

/-! ### laws_has: function 26 -/
def laws_has.l0 : Nat → List ByteArray → ByteArray → Int → Option (Bool)
 | 0, _, _, _ => none
 | k + 1, x0, x1, x5 => if x5 < (x0.length : Int) then (if 0 ≤ x5 then (if (rdOf ByteArray.empty x0 x5).toList = x1.toList then (some true) else (laws_has.l0 k x0 x1 (wrap64 (x5 + 1)))) else (none)) else (some false)
def laws_has.f (k : Nat) (l0 : List ByteArray) (a1 : ByteArray) : Option (Bool) := laws_has.l0 k l0 a1 0
theorem laws_has.mono_l : ∀ k, (∀ y0 y1 y2, LeO (laws_has.l0 k y0 y1 y2) (laws_has.l0 (k + 1) y0 y1 y2))
 | 0 => fun _ _ _ r h => by simp [laws_has.l0] at h
 | k + 1 => by
  have ih0 := laws_has.mono_l k
  ·intro y0 y1 y2; unfold laws_has.l0
   repeat' first
   | (with_reducible exact ih0 _ _ _)
   | (with_reducible exact LeO.refl _)
   | (with_reducible exact LeO.none _)
   | (with_reducible refine LeO.ite ?_ ?_)
   | (with_reducible refine LeO.bind ?_ (fun _ => ?_))
   | exact ih0 _ _ _
   | exact LeO.none _
   | refine LeO.ite ?_ ?_
   | refine LeO.bind ?_ (fun _ => ?_)
theorem laws_has.mono : ∀ a0 a1 k, LeO (laws_has.f k a0 a1) (laws_has.f (k + 1) a0 a1) := by
 intro a0 a1 k; have ih0 := laws_has.mono_l k; unfold laws_has.f
 repeat' first
   | (with_reducible exact ih0 _ _ _)
   | (with_reducible exact LeO.refl _)
   | (with_reducible exact LeO.none _)
   | (with_reducible refine LeO.ite ?_ ?_)
   | (with_reducible refine LeO.bind ?_ (fun _ => ?_))
   | exact ih0 _ _ _
   | exact LeO.none _
   | refine LeO.ite ?_ ?_
   | refine LeO.bind ?_ (fun _ => ?_)
set_option maxHeartbeats 8000000 in
set_option maxRecDepth 100000 in
theorem laws_has.calls (k : Nat) (A0 : Option Addr) (c0 : Nat) (l0 : List ByteArray) (a1 : ByteArray) (r : Bool) (w : World) (hr0 : Kd.C Kd.string w A0 l0.length l0) (hc0 : l0.length ≤ c0) (h : laws_has.f k l0 a1 = some r) :
  Calls Try.prog 26 #[.slice A0 l0.length c0, .string a1] w fun e w' => e = .returned (.bool r) ∧ Drawn0 w w' := by
 have HR0 := Aside0.mk hr0; have HC0 := Aside0.mk hc0; clear hr0 hc0; have H : (laws_has.l0 k l0 a1 0) = some r := h; clear h; have H' := Aside0.mk H; clear H; go_enter Try.func26, Try.ntmps26; go_wp2; go_loopg [5] k (fun kq v5 w' => ∃ (x5_1 : Int), v5 = .int .i64 x5_1 ∧ Aside0 (laws_has.l0 kq l0 a1 x5_1 = some r) ∧ Aside0 (kq ≤ k) ∧ Drawn0 w w'); (case atStart => exact ⟨(0), zbe0, H', ⟨Nat.le_refl _⟩, zbe1⟩); case round =>
  clear H'; obtain ⟨x5_1, rfl, HA, HK1, ⟨m1, rfl⟩⟩ := hrel
  cases gk with
  | zero => exact absurd HA.out (by simp [laws_has.l0])
  | succ k1 =>
   have H := HA.out; clear HA; simp only [laws_has.l0] at H; by_cases c3 : x5_1 < (l0.length : Int)
   ·rw [if_pos c3] at H; have c3b0 : decide (x5_1 < (l0.length : Int)) = true := decide_eq_true c3; clear c3; by_cases c4 : 0 ≤ x5_1
    ·rw [if_pos c4] at H; have c4b0 : decide (0 ≤ x5_1) = true := decide_eq_true c4; clear c4; by_cases c5 : (rdOf ByteArray.empty l0 x5_1).toList = a1.toList
     ·rw [if_pos c5] at H; have c5b0 : ((rdOf ByteArray.empty l0 x5_1).toList == a1.toList) = true := beq_iff_eq.mpr c5; have c5b1 : ((rdOf ByteArray.empty l0 x5_1).toList != a1.toList) = false := bne_eq_false_iff_eq.mpr c5; clear c5; obtain rfl := Option.some.inj H; have p304 : 0 ≤ (x5_1 : Int) := of_decide_eq_true zbe2; have q304 : x5_1 < (l0.length : Int) := of_decide_eq_true zbe2; obtain ⟨ad304, e304, hx304_0⟩ := Kd.at_string HR0.out x5_1 p304 q304; cases e304; replace p304 := eq_true p304; replace q304 := eq_true q304; go_wp2; go_ret; exact ⟨zbe0, zbe1⟩
     ·rw [if_neg c5] at H; have c5b0 : ((rdOf ByteArray.empty l0 x5_1).toList == a1.toList) = false := beq_eq_false_iff_ne.mpr c5; have c5b1 : ((rdOf ByteArray.empty l0 x5_1).toList != a1.toList) = true := bne_iff_ne.mpr c5; have H' := Aside0.mk H; clear H; have p304 : 0 ≤ (x5_1 : Int) := of_decide_eq_true zbe2; have q304 : x5_1 < (l0.length : Int) := of_decide_eq_true zbe2; obtain ⟨ad304, e304, hx304_0⟩ := Kd.at_string HR0.out x5_1 p304 q304; cases e304; replace p304 := eq_true p304; replace q304 := eq_true q304; go_wp2; go_roundg k1; (case measure => have := HK1.out; omega); case rel => exact ⟨(wrap64 (x5_1 + 1)), zbe0, H', ⟨by have := HK1.out; omega⟩, zbe1⟩
    ·rw [if_neg c4] at H; exact absurd H (by simp)
   ·rw [if_neg c3] at H; have c3b0 : decide (x5_1 < (l0.length : Int)) = false := decide_eq_false c3; clear c3; obtain rfl := Option.some.inj H; go_wp2; go_ret; exact ⟨zbe0, zbe1⟩

/-! ### impl_sortedSet: function 52 -/
set_option maxHeartbeats 4000000 in
set_option maxRecDepth 1000000 in
theorem impl_sortedSet_calls (A0 : Option Addr) (c0 : Nat) (l0 : List ByteArray) (r : List ByteArray) (w : World) (hr0 : Kd.C Kd.string w A0 l0.length l0) (hc0 : l0.length ≤ c0) (hlen : l0.length ≤ 1000000) (hsz : ∀ s ∈ l0, s.size ≤ maxLen) (hasc : asc r) (hmem : ∀ s, s ∈ r ↔ s ∈ l0) :
    Calls Try.prog 52 #[.slice A0 l0.length c0] w fun e w' => ∃ v0_ : Value, e = .returned (v0_) ∧ Kd.R Kd.string 9 w' w.heap.size (fun _ => True) v0_ r ∧ Below w.heap.size w w' := by
  have HR0 := Aside0.mk hr0; have HC0 := Aside0.mk hc0; have HL := Aside0.mk hlen; have HZ := Aside0.mk hsz; have HA := Aside0.mk hasc; have HM := Aside0.mk hmem; clear hr0 hc0 hlen hsz hasc hmem; have hmm := @run_makeMap Try.prog; go_enter Try.func52, Try.ntmps52; go_wp2; go_loopw [13] (fun i wr => ∃ (x : Int) (k : Nat) (D : DataW Unit), i = .int .i64 x ∧ Aside0 (x = (k : Int) ∧ k ≤ l0.length) ∧ wr.ownsMap Try.prog 9 (plainElem Try.prog 4) w.heap.size k D ∧ Aside0 (keyed D (fun s => s ∈ l0.take k)) ∧ Aside0 (Below w.heap.size w wr))
    (fun i _ => l0.length - (intOf i).toNat)
  (case atStart => exact ⟨0, 0, .map [], rfl, ⟨rfl, Nat.zero_le _⟩, World.ownsMap_made _ _ _ _, ⟨by simpa using keyed_nil⟩, ⟨(Below.refl _ _).alloc (Nat.le_refl _) _⟩⟩); case round =>
    obtain ⟨x, k, D, rfl, hk, hown, hkd, hnx⟩ := hrel; by_cases hlt : k < l0.length
    · have cb : decide (x < (l0.length : Int)) = true := decide_eq_true (by have := hk.out.1; omega); have p : 0 ≤ x := by have := hk.out.1; omega
      have q : x < (l0.length : Int) := by have := hk.out.1; omega
      obtain ⟨s, hs⟩ : ∃ s, rdOf ByteArray.empty l0 x = s := ⟨_, rfl⟩; obtain ⟨ad, e, hx⟩ := Kd.at_string (Kd.C_below HR0.out hnx.out) x p q; cases e; rw [hs] at hx; replace p := eq_true p; replace q := eq_true q; have hs' : l0[k] = s := by
        rw [← hs, atS_rd, ← atS_get l0 k hlt]; have := hk.out.1; subst this; rfl
      have hss : s.size ≤ maxLen := by
        rw [← hs']; exact HZ.out _ (List.getElem_mem hlt)
      have hkey : keyOf Try.prog 9 (.string s) = some (skey s) := Go.WideMaps.keyOf_string_mk Try.underlying9 hss; have hn : k < maxLen := by have := HL.out; unfold maxLen; omega
      have hkd' : Aside0 (keyed (D.put (skey s) (.lit (.bool true))) (fun x => x ∈ l0.take (k + 1))) := ⟨by
        have := keyed_put hkd.out hown.isMap s (.lit (.bool true)); rw [← List.take_append_getElem hlt, hs']; intro y; refine (this y).trans ?_; simp only [List.mem_append, List.mem_singleton]⟩
      have hlt' := Aside0.mk hlt; clear hs hs' hss hlt hkd; go_wp2_with (first
        | (at_mapUpdate; refine wpList_mapUpdate_own _ rfl _ _ _ 85 rfl 9 4 (Go.Maps.string_keyed Try.underlying9) Try.underlying85 _ w.heap.size k _ rfl hown hn _ _ _ rfl rfl hkey _ [] (plainElem_bool Try.underlying4 true) ?_)
        | go_in)
      intro w1 hown1 hgrow1; have R2 := Aside0.mk (hnx.out.grown hgrow1 hnx.out.size (fun j hj => by cases hj; exact Nat.le_refl _)); clear hgrow1 hown hkey hnx; go_wp2; go_roundw; (case rel => exact ⟨_, k + 1, _, rfl, ⟨by have := hk.out; have := HL.out; unfold wrap64; omega, hlt'.out⟩, hown1, hkd', R2⟩); case measure =>
        have := hk.out; have := HL.out; have := hlt'.out; have e : wrap64 (x + 1) = x + 1 := by unfold wrap64; omega
        simp [intOf, e]; omega
    · have cb : decide (x < (l0.length : Int)) = false := decide_eq_false (by have := hk.out; omega); have e : k = l0.length := by have := hk.out.2; omega
      subst e; have hkd' : Aside0 (keyed D (fun s => s ∈ l0)) := ⟨by have := hkd.out; rwa [List.take_length] at this⟩; have HB := hnx; have hown' := Aside0.mk hown; clear hlt hkd hnx hown; go_wp2_with (first
        | ((with_reducible refine gate_dst (N := 20) rfl ?_); go_loud (refine Kd.R_lit Kd.string _ 9 ?hg (N := 20) ?hd (xs := ([] : List ByteArray)) (inner := []) (ok := fun _ => True) (okp := fun _ => True) ?hr ?hp (fun _ hk => hk) trivial (Below.refl _ _) (Nat.le_refl _) (by simp) ?_; (case hd => rfl); (case hg => rfl); (case hr => first | (go_simp; done) | (go_simp; rfl)); (case hp => exact (Reps.none _ _)); intro v148 w4 ho5 hb hg_ hnew_; have hown4 := hown'.out.kept hg_ (by simp); have HB4 := Aside0.mk (below_step HB.out hb); have HO4 := Aside0.mk (Kd.R_mono (Kd.R_lower (Kd.R_bound ho5) (below_size HB.out)) (ok' := fun k_ => k_ ≠ w.heap.size ∧ k_ ≠ w4.heap.size) (fun k_ hk_ => ⟨by have := hk_.2.1; have := hown'.out.lt; omega, by have := hk_.2.2.1; omega⟩)); clear ho5 hb hg_ hnew_ HB hown'))
        | (at_range; go_loud (refine wpList_range_own _ rfl _ 85 rfl 9 4 (Go.Maps.string_keyed Try.underlying9) Try.underlying85 _ w.heap.size _ D rfl hown4 ?_; intro w0 hrg0 hg0 hs0))
        | go_in)
      go_frame; have HB0 := Aside0.mk (HB4.out.grown hg0 (HB4.out.size) (fun j hj => by cases hj)); have HO0 := Aside0.mk (Kd.R_step HO4.out (fun k_ _ hlt_ => hg0.block k_ hlt_ (by simp))); have hsz0 := Aside0.mk (ownsMap_size hown4); have H4 := Aside0.mk (below_size HB4.out); clear hown4 hg0 hs0 HB4 HO4; go_loopw [6] (fun v6 wr2 => ∃ (ss : List (List UInt8)) (left : Lit → Bool) (cnt : Nat), wr2.ranges Try.prog 9 (plainElem Try.prog 4) w.heap.size w4.heap.size l0.length D left cnt ∧ Aside0 (Collected D left ss) ∧ Aside0 (ss.length + cnt ≤ l0.length) ∧ Aside0 (Kd.R Kd.string 9 wr2 w.heap.size (fun k_ => k_ ≠ w.heap.size ∧ k_ ≠ w4.heap.size) v6 (ss.map mkS)) ∧ Aside0 (Below w.heap.size w wr2))
        (fun _ wr2 => wr2.rangeLeft w.heap.size w4.heap.size)
      (case atStart => exact ⟨[], _, _, hrg0, ⟨Collected.start D⟩, ⟨by have := hsz0.out; simpa using this⟩, HO0, HB0⟩); case round =>
        clear HO0 HB0 hrg0 hsz0; obtain ⟨ss, left, cnt, hrg, hC, hN, HO, HB⟩ := hrel; go_wp2_with (first
          | (at_next; refine wpList_next_ranges _ rfl _ rfl 9 (Go.Maps.string_keyed Try.underlying9) (plainElem Try.prog 4) (fun x => Value.string (mkS x)) Value.bool (keyOf_str_inv Try.underlying9) (plainElem_bool_inv Try.underlying4) w.heap.size w4.heap.size l0.length D left cnt rfl hrg ?aD ?aM; (case' aD => (intro hc0 hl0; have HD0 := Aside0.mk hl0; clear hc0 hl0)); (case' aM => (intro x c kl y w1 cnt1 hkey hlk hv hat hrg1 hlt1 hg1 hs1 hen; obtain ⟨x', ex, rfl, _⟩ := Maps.keyOf_str Try.underlying9 hkey; obtain rfl := encStr_inj (x := x) ex; have HC1 := Aside0.mk (hC.out.step hlk hat); have HRG := Aside0.mk hrg1; have HLT := Aside0.mk hlt1; have HB1 := Aside0.mk (HB.out.grown hg1 HB.out.size (fun j hj => by cases hj; exact H4.out)); have HO1 := Aside0.mk (Kd.R_step HO.out (fun k_ hk_ hlt_ => hg1.block k_ hlt_ (fun e => hk_.2 (by injection e)))); have HOR := Aside0.mk hrg; clear hkey hlk hv hat hrg1 hlt1 hg1 hs1 hrg ex hC HO HB)))
          | ((with_reducible refine gate_builtin (b := .append) (xs := #[.tmp 27, .tmp 29]) rfl ?_); at_builtin; go_loud (refine Kd.R_append Kd.string (w0 := w) w.heap.size rfl (.tmp 27) (.tmp 29) 43 9 (.string ⟨#[]⟩) 16 rfl Try.underlying43 info9 rfl (by decide) (by omega) u6 (ss.map mkS) (mkS x) [.string (mkS x)] (fun k_ => k_ ≠ w.heap.size ∧ k_ ≠ w4.heap.size) (fun _ => False) rfl rfl ?aP (fun _ hk => hk.elim) ?aF ?aO ?aB ?aS ?aL ?_; (case aP => exact rfl); (case aF => exact (fun k_ hk_ => ⟨by have := HRG.out.owns.lt; omega, by have := HRG.out.lt; omega⟩)); (case aO => exact HO1.out); (case aB => exact HB1.out); (case aS => exact below_size HB1.out); (case aL => have := hN.out; have := HL.out; simp only [List.length_map]; omega); intro v166 w26 ho hb hg hat; have HRG2 := Aside0.mk (HRG.out.kept hg (fun e => (HO1.out.1 _ e.symm).1 rfl) (fun e => (HO1.out.1 _ e.symm).2 rfl)); have HO2 := Aside0.mk ho; have HB2 := Aside0.mk hb; clear ho hb hg hat HRG HO1 HB1))
          | go_in)
        · refine ⟨⟨ss ++ [x], _, cnt1, HRG2.out, HC1, ⟨by have := hN.out; have := HLT.out; simp only [List.length_append, List.length_singleton]; omega⟩, ⟨by rw [List.map_append]; exact HO2.out⟩, HB2⟩, ?_⟩; rw [HRG2.out.left_eq, HOR.out.left_eq]; exact HLT.out
        · have HM2 := Aside0.mk (fun s => collected_mem hC.out HD0.out hkd'.out s); have HP := Aside0.mk (apartS_of (collected_nodup hC.out)); have HQ := Aside0.mk (Kd.R_mono HO.out (ok' := fun _ => True) (fun _ _ => trivial)); have HN := Aside0.mk (show (ss.map mkS).length ≤ 1000000 by have := hN.out; have := HL.out; simp only [List.length_map]; omega); obtain ⟨xs0, hxs0⟩ : ∃ xs0, ss.map mkS = xs0 := ⟨_, rfl⟩; rw [hxs0] at HM2 HP HQ HN; clear hxs0 hC HD0 hkd' HO hN hrg H4 HC0 HR0 HZ HL hk cb hmm; obtain ⟨Ao, co, eo⟩ := Kd.R_slice HQ.out; subst eo; go_loopw [8] (fun v8 wo => ∃ (x8 : Int) (k : Nat) (xs : List ByteArray), v8 = .int .i64 x8 ∧ Aside0 (x8 = (k : Int) ∧ 1 ≤ k ∧ xs.length = xs0.length ∧ ordS xs k k ∧ apartS xs ∧ ∀ s, s ∈ xs ↔ s ∈ l0) ∧ Aside0 (Kd.R Kd.string 9 wo w.heap.size (fun _ => True) (.slice Ao xs0.length co) xs) ∧ Aside0 (Below w.heap.size w wo))
            (fun v8 _ => xs0.length - (intOf v8).toNat)
          (case atStart => exact ⟨1, 1, xs0, rfl, ⟨rfl, Nat.le_refl _, rfl, fun a b hab hb hne => by omega, HP.out, HM2.out⟩, HQ, HB⟩); case round =>
            clear HM2 HP HQ HB; obtain ⟨x8, k, xs, rfl, hk, HQ, HB⟩ := hrel; by_cases hlt : k < xs0.length
            · have cb : decide (x8 < (xs0.length : Int)) = true := decide_eq_true (by have := hk.out.1; omega); have hlt' := Aside0.mk hlt; clear hlt; go_wp2; go_loopw [9] (fun v9 wi => ∃ (y : Int) (j : Nat) (ys : List ByteArray), v9 = .int .i64 y ∧ Aside0 (y = (j : Int) ∧ j ≤ k ∧ ys.length = xs0.length ∧ ordS ys k j ∧ apartS ys ∧ ∀ s, s ∈ ys ↔ s ∈ l0) ∧ Aside0 (Kd.R Kd.string 9 wi w.heap.size (fun _ => True) (.slice Ao xs0.length co) ys) ∧ Aside0 (Below w.heap.size w wi))
                (fun v9 _ => (intOf v9).toNat)
              (case atStart => exact ⟨x8, k, xs, rfl, ⟨hk.out.1, Nat.le_refl _, hk.out.2.2.1, hk.out.2.2.2.1, hk.out.2.2.2.2.1, hk.out.2.2.2.2.2⟩, HQ, HB⟩); case round =>
                clear HQ HB; obtain ⟨y, j, ys, rfl, hj, HQ, HB⟩ := hrel; by_cases h0 : 0 < y
                · have g0 : decide (0 < y) = true := decide_eq_true h0; have hlen' : j < ys.length := by have := hj.out.2.1; have := hj.out.2.2.1; have := hlt'.out; omega
                  obtain ⟨g, cap, eo, gb, gl, cells, HG⟩ := Kd.R_form HQ.out (by omega); injection eo with ea en ec; subst ea; subst ec; have GB := Aside0.mk gb; clear en gb gl HG cells; obtain ⟨z, hz⟩ : ∃ z : Int, wrap64 (y - 1) = z := ⟨_, rfl⟩; have hzw : (IntKind.i64.wrap (y - 1)) = z := (i64_w _).trans hz; have hzj : Aside0 (z = ((j - 1 : Nat) : Int)) := ⟨by have := hj.out.1; have := HN.out; have := hj.out.2.2.1; rw [← hz]; unfold wrap64; omega⟩; have pz : 0 ≤ z := by have := hzj.out; omega
                  have qz : z < (xs0.length : Int) := by have := hzj.out; have := hj.out.2.2.1; omega
                  have py : 0 ≤ y := by omega
                  have qy : y < (xs0.length : Int) := by have := hj.out.1; have := hj.out.2.2.1; omega
                  obtain ⟨hx1, hf1⟩ := Kd.R_celln (⟨#[]⟩ : ByteArray) HQ.out z pz qz; obtain ⟨hx2, hf2⟩ := Kd.R_celln (⟨#[]⟩ : ByteArray) HQ.out y py qy; obtain ⟨sa, hsa⟩ : ∃ s, rdOf (⟨#[]⟩ : ByteArray) ys z = s := ⟨_, rfl⟩; obtain ⟨sb, hsb⟩ : ∃ s, rdOf (⟨#[]⟩ : ByteArray) ys y = s := ⟨_, rfl⟩; rw [hsa] at hx1; rw [hsb] at hx2; have ea : Aside0 (atS ys (j - 1) = sa) := ⟨by rw [← hsa, hzj.out]; rfl⟩; have eb : Aside0 (atS ys j = sb) := ⟨by rw [← hsb, hj.out.1]; rfl⟩; have hne : (sa.toList == sb.toList) = false := by
                    rw [beq_eq_false_iff_ne]; intro e; have := toList_inj e; rw [← ea.out, ← eb.out] at this; exact hj.out.2.2.2.2.1 (j - 1) j (by have := hj.out.1; omega) hlen' this
                  have h0' := Aside0.mk h0; have hl' := Aside0.mk hlen'; replace pz := eq_true pz; replace qz := eq_true qz; replace py := eq_true py; replace qy := eq_true qy; clear hsa hsb h0 hlen' hz; by_cases hl : ltS sb sa
                  · have hb : Op.bytesLess sa.toList sb.toList = false := by
                      cases h : Op.bytesLess sa.toList sb.toList
                      · rfl
                      · exact (ltS_asym hl h).elim
                    have hl2 := Aside0.mk hl; clear hl; have HW := fun n => Kd.R_putg (Kd.R_drewN HQ.out n) z sb; have hf3 := fun n => (Kd.R_celln (⟨#[]⟩ : ByteArray) (HW n).1 y (of_eq_true py) (of_eq_true qy)).1; have hf4 := fun n => (Kd.R_celln (⟨#[]⟩ : ByteArray) (HW n).1 y (of_eq_true py) (of_eq_true qy)).2; have HW2 := Aside0.mk (fun n => (Kd.R_putg (HW n).1 y sa).1); clear HW; go_wp2; (repeat (go_quiet (fail); try go_wp2)); go_big_region; clear hf3 hf4 hx1 hx2 hf1 hf2 hb hne; go_wp2; go_roundw; case rel => exact ⟨_, j - 1, swp ys j, rfl, ⟨hzj.out, by have := hj.out.2.1; omega, by rw [swp_len]; exact hj.out.2.2.1, ordS_step hj.out.2.2.2.1 zbe3 hj.out.2.1 zbe4 (by rw [ea.out, eb.out]; exact hl2.out), swp_apart hj.out.2.2.2.2.1 zbe3 hl'.out, fun s => (swp_mem zbe3 hl'.out s).trans (hj.out.2.2.2.2.2 s)⟩, ⟨by
                      have h := HW2.out; have e1 : z.toNat = j - 1 := by rw [hzj.out]; rfl
                      have e2 : y.toNat = j := by rw [hj.out.1]; rfl
                      have e : (ys.set z.toNat sb).set y.toNat sa = swp ys j := by rw [e1, e2, swp, ea.out, eb.out]
                      rw [e] at h; (with_reducible repeat (first | apply Kd.R_alloc | apply Kd.R_drewN | apply Kd.R_drew)); exact h _⟩, ⟨below_set (below_set zbe5 GB.out) GB.out⟩⟩
                    case measure =>
                      have := hzj.out; have := hj.out.1; have := h0'.out; simp [intOf]; omega
                  · have hb : Op.bytesLess sa.toList sb.toList = true := by
                      by_cases h : ltS sa sb
                      · exact h
                      · exact (hl (ltS_tri h (fun e => by rw [e] at hne; simp at hne))).elim
                    have hE := Aside0.mk (ordS_next (ordS_stop hj.out.2.2.2.1 hj.out.2.1 zbe4 hj.out.2.2.2.2.1 (Or.inr (by rw [ea.out, eb.out]; exact hl)))); clear hl; go_wp2; (repeat (go_quiet (fail); try go_wp2)); go_roundw; (case rel => exact ⟨_, k + 1, ys, rfl, ⟨zbe6, by omega, hj.out.2.2.1, hE.out, hj.out.2.2.2.2.1, hj.out.2.2.2.2.2⟩, ⟨zbe7⟩, ⟨zbe5⟩⟩); case measure =>
                      have := hk.out.1; have := HN.out; have := hlt'.out; have e : wrap64 (x8 + 1) = x8 + 1 := by unfold wrap64; omega
                      simp [intOf, e]; omega
                · have g0 : decide (0 < y) = false := decide_eq_false h0; have hE := Aside0.mk (ordS_next (ordS_stop hj.out.2.2.2.1 hj.out.2.1 zbe4 hj.out.2.2.2.2.1 (Or.inl (by have := hj.out.1; omega)))); clear h0; go_wp2; (repeat (go_quiet (fail); try go_wp2)); go_roundw; (case rel => exact ⟨_, k + 1, ys, rfl, ⟨zbe6, by omega, hj.out.2.2.1, hE.out, hj.out.2.2.2.2.1, hj.out.2.2.2.2.2⟩, ⟨zbe7⟩, ⟨zbe5⟩⟩); case measure =>
                    have := hk.out.1; have := HN.out; have := hlt'.out; have e : wrap64 (x8 + 1) = x8 + 1 := by unfold wrap64; omega
                    simp [intOf, e]; omega
            · have cb : decide (x8 < (xs0.length : Int)) = false := decide_eq_false (by have := hk.out.1; omega); have HE := Aside0.mk (asc_uniq (ordS_asc hk.out.2.2.2.1 (by have := hk.out.2.2.1; omega)) HA.out (fun s => (hk.out.2.2.2.2.2 s).trans (HM.out s).symm)); clear hlt hk; go_wp2; go_ret; refine ⟨_, rfl, ?_, HB.out⟩; have := HQ.out; rw [← HE.out]; exact this
def insS : List ByteArray → ByteArray → List ByteArray
 | [], s => [s]
 | a :: r, s => if Op.bytesLess a.toList s.toList = true then a :: insS r s else if a.toList = s.toList then a :: r else s :: a :: r
def delS (l : List ByteArray) (s : ByteArray) : List ByteArray := l.filter fun a => decide (a.toList ≠ s.toList)
theorem mem_insS (l : List ByteArray) (s x : ByteArray) : x ∈ insS l s ↔ (x ∈ l ∨ x = s) := by
  induction l with
  | nil => simp [insS]
  | cons a r ih =>
    unfold insS; by_cases h : Op.bytesLess a.toList s.toList = true
    · rw [if_pos h, List.mem_cons, ih, List.mem_cons, or_assoc]
    · rw [if_neg h]; by_cases h2 : a.toList = s.toList
      · rw [if_pos h2, toList_inj h2]; simp only [List.mem_cons]; constructor
        · exact fun h => Or.inl h
        · rintro (h | h)
          · exact h
          · exact Or.inl h
      · rw [if_neg h2]; simp only [List.mem_cons]; constructor
        · rintro (h | h)
          · exact Or.inr h
          · exact Or.inl h
        · rintro (h | h)
          · exact Or.inr h
          · exact Or.inl h
theorem asc_insS {l : List ByteArray} (h : asc l) (s : ByteArray) : asc (insS l s) := by
  induction l with
  | nil => simp [insS, asc]
  | cons a r ih =>
    obtain ⟨h1, h2⟩ := List.pairwise_cons.1 h; unfold insS; by_cases c : Op.bytesLess a.toList s.toList = true
    · rw [if_pos c]; refine List.pairwise_cons.2 ⟨fun x hx => ?_, ih h2⟩; rcases (mem_insS r s x).1 hx with hx | rfl
      · exact h1 x hx
      · exact c
    · rw [if_neg c]; by_cases c2 : a.toList = s.toList
      · rw [if_pos c2]; exact h
      · rw [if_neg c2]; have c3 : ltS s a := ltS_tri (show ¬ ltS a s from c) (fun e => c2 (by rw [e])); refine List.pairwise_cons.2 ⟨fun x hx => ?_, h⟩; rcases List.mem_cons.1 hx with rfl | hx
        · exact c3
        · exact ltS_trans c3 (h1 x hx)
theorem sortW_mem (l : List ByteArray) : ∀ a : List ByteArray, ∀ s, s ∈ l.foldl insS a ↔ (s ∈ a ∨ s ∈ l) := by
  induction l with
  | nil => intro a s; simp
  | cons x l ih =>
    intro a s; rw [List.foldl_cons, ih, mem_insS, List.mem_cons]; constructor
    · rintro ((h | h) | h)
      · exact Or.inl h
      · exact Or.inr (Or.inl h)
      · exact Or.inr (Or.inr h)
    · rintro (h | h | h)
      · exact Or.inl (Or.inl h)
      · exact Or.inl (Or.inr h)
      · exact Or.inr h
theorem sortW_asc (l : List ByteArray) : ∀ a : List ByteArray, asc a → asc (l.foldl insS a) := by
  induction l with
  | nil => intro a h; exact h
  | cons x l ih => intro a h; exact ih _ (asc_insS h x)
def impl_sortedSet.f (l0 : List ByteArray) : Option (List ByteArray) := if l0.length ≤ 1000000 ∧ (l0.all fun s => decide (s.size ≤ maxLen)) = true then some (l0.foldl insS []) else none
theorem impl_sortedSet.calls (A0 : Option Addr) (c0 : Nat) (l0 : List ByteArray) (r : List ByteArray) (w : World) (hr0 : Kd.C Kd.string w A0 l0.length l0) (hc0 : l0.length ≤ c0) (h : impl_sortedSet.f l0 = some r) :
    Calls Try.prog 52 #[.slice A0 l0.length c0] w fun e w' => ∃ v0_ : Value, e = .returned (v0_) ∧ Kd.R Kd.string 9 w' w.heap.size (fun _ => True) v0_ r ∧ Below w.heap.size w w' := by
  unfold impl_sortedSet.f at h; by_cases c : l0.length ≤ 1000000 ∧ (l0.all fun s => decide (s.size ≤ maxLen)) = true
  · rw [if_pos c] at h; obtain rfl := Option.some.inj h; exact impl_sortedSet_calls A0 c0 l0 _ w hr0 hc0 c.1 (fun s hs => of_decide_eq_true (List.all_eq_true.mp c.2 s hs)) (sortW_asc l0 [] List.Pairwise.nil) (fun s => by rw [sortW_mem]; simp)
  · rw [if_neg c] at h; exact absurd h (by simp)

end Go.Proofs.Ytbgnjnlecpdfaaa.PFnRollBack
