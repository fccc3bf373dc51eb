-- Laid by a program of this session: a turned copy of the kit's print, with contracts by hand beside.
import Derived.Test.YtnahkojlamficaaPFnPlanReachesx0
import Derived.Test.YtnahkojlamficaaPFnPlanReachesx8
namespace Go.Proofs.Ytnahkojlamficaa.PFnPlanReaches
open Go.RowKit Go.Proofs.YtnahkojlamficaaW.PrintWords Go.Proofs.YtnahkojlamficaaW.PrintLast Go.Proofs.YtnahkojlamficaaW.PrintMore
theorem zf0 {X : Prop} (h : X := by have := hk.out; have := HL1.out; unfold wrap64; omega) : X := h
theorem zf1 {X : Prop} (h : X := by first | rfl | (simp; done) | (simp [*]; done)) : X := h
theorem zf2 {X : Prop} (h : X := by repeat (first | exact Drawn0.refl _ | apply Drawn0.step)) : X := h
theorem zf3 {X : Prop} (h : X := by first | (with_reducible assumption) | assumption) : X := h
attribute [local go_sem] max2_int min2_int max_two min_two max_three min_three max_four min_four   -- for this text's walks alone
set_option linter.unusedVariables false
set_option linter.unusedSimpArgs false

/-! ### impl_ApplyActs: function 22 -/
set_option maxHeartbeats 4000000 in
set_option maxRecDepth 100000 in
theorem impl_keysOf_calls (b n : Nat) (D : DataW Unit) (r : List ByteArray) (w : World) (hown : w.ownsMap Try.prog 9 (plainElem Try.prog 4) b n D) (hn : n ≤ 100000) (hasc : asc r) (hkd : keyed D (fun s => s ∈ r)) :
    Calls Try.prog 57 #[.map (some b)] w fun e w' => ∃ v0_ : Value, e = .returned (v0_) ∧ Kd.R Kd.string 9 w' w.heap.size (fun _ => True) v0_ r ∧ Below w.heap.size w w' := by
  have HA := Aside0.mk hasc; have HK := Aside0.mk hkd; have HL := Aside0.mk hn; have HB := Aside0.mk (Below.refl w.heap.size w); have hown' := Aside0.mk hown; have hbs := Aside0.mk hown.lt; clear hasc hkd hn hown; go_enter Try.func57, Try.ntmps57; go_wp2_with (first
    | ((with_reducible refine gate_dst (N := 5) rfl ?_); go_loud (refine Kd.R_lit Kd.string _ 9 ?hg (N := 5) ?hd (xs := ([] : List ByteArray)) (inner := []) (ok := fun _ => True) (okp := fun _ => True) ?hr ?hp (fun _ hk => hk) trivial (Below.refl _ _) (Nat.le_refl _) (by simp) ?_; (case hd => rfl); (case hg => rfl); (case hr => first | (go_simp; done) | (go_simp; rfl)); (case hp => exact (Reps.none _ _)); intro v148 w4 ho5 hb hg_ hnew_; have hown4 := hown'.out.kept hg_ (by simp); have HB4 := Aside0.mk (below_step HB.out hb); have HO4 := Aside0.mk (Kd.R_mono (Kd.R_lower (Kd.R_bound ho5) (below_size HB.out)) (ok' := fun k_ => k_ ≠ b ∧ k_ ≠ w4.heap.size) (fun k_ hk_ => ⟨by have := hk_.2.1; have := hbs.out; omega, by have := hk_.2.2.1; omega⟩)); clear ho5 hb hg_ hnew_ HB hown'))
    | (at_range; go_loud (refine wpList_range_own _ rfl _ 74 rfl 9 4 (Go.Maps.string_keyed Try.underlying9) Try.underlying74 _ b _ D rfl hown4 ?_; intro w0 hrg0 hg0 hs0))
    | go_in)
  go_frame; have HB0 := Aside0.mk (HB4.out.grown hg0 (HB4.out.size) (fun j hj => by cases hj)); have HO0 := Aside0.mk (Kd.R_step HO4.out (fun k_ _ hlt_ => hg0.block k_ hlt_ (by simp))); have hsz0 := Aside0.mk (ownsMap_size hown4); have H4 := Aside0.mk (below_size HB4.out); clear hown4 hg0 hs0 HB4 HO4; go_loopw [3] (fun v3 wr2 => ∃ (ss : List (List UInt8)) (left : Lit → Bool) (cnt : Nat), wr2.ranges Try.prog 9 (plainElem Try.prog 4) b w4.heap.size n D left cnt ∧ Aside0 (Collected D left ss) ∧ Aside0 (ss.length + cnt ≤ n ∧ ∀ s ∈ ss.map mkS, s.size ≤ maxLen) ∧ Aside0 (Kd.R Kd.string 9 wr2 w.heap.size (fun k_ => k_ ≠ b ∧ k_ ≠ w4.heap.size) v3 (ss.map mkS)) ∧ Aside0 (Below w.heap.size w wr2))
    (fun _ wr2 => wr2.rangeLeft b w4.heap.size)
  (case atStart => exact ⟨[], _, _, hrg0, ⟨Collected.start D⟩, ⟨by have := hsz0.out; simpa using this, by simp⟩, HO0, HB0⟩); case round =>
    clear HO0 HB0 hrg0 hsz0; obtain ⟨ss, left, cnt, hrg, hC, hN, HO, HB⟩ := hrel; go_wp2_with (first
      | (at_next; refine wpList_next_ranges _ rfl _ rfl 9 (Go.Maps.string_keyed Try.underlying9) (plainElem Try.prog 4) (fun x => Value.string (mkS x)) Value.bool (keyOf_str_inv Try.underlying9) (plainElem_bool_inv Try.underlying4) b w4.heap.size n D left cnt rfl hrg ?aD ?aM; (case' aD => (intro hc0 hl0; have HD0 := Aside0.mk hl0; clear hc0 hl0)); (case' aM => (intro x c kl y w1 cnt1 hkey hlk hv hat hrg1 hlt1 hg1 hs1 hen; obtain ⟨x', ex, rfl, hxl⟩ := Maps.keyOf_str Try.underlying9 hkey; obtain rfl := encStr_inj (x := x) ex; have HXL := Aside0.mk hxl; have HC1 := Aside0.mk (hC.out.step hlk hat); have HRG := Aside0.mk hrg1; have HLT := Aside0.mk hlt1; have HB1 := Aside0.mk (HB.out.grown hg1 HB.out.size (fun j hj => by cases hj; exact H4.out)); have HO1 := Aside0.mk (Kd.R_step HO.out (fun k_ hk_ hlt_ => hg1.block k_ hlt_ (fun e => hk_.2 (by injection e)))); have HOR := Aside0.mk hrg; clear hkey hlk hv hat hrg1 hlt1 hg1 hs1 hrg ex hC HO HB hxl)))
      | ((with_reducible refine gate_builtin (b := .append) (xs := #[.tmp 12, .tmp 14]) rfl ?_); at_builtin; go_loud (refine Kd.R_append Kd.string (w0 := w) w.heap.size rfl (.tmp 12) (.tmp 14) 29 9 (.string ⟨#[]⟩) 16 rfl Try.underlying29 info9 rfl (by decide) (by omega) u3 (ss.map mkS) (mkS x) [.string (mkS x)] (fun k_ => k_ ≠ b ∧ k_ ≠ w4.heap.size) (fun _ => False) rfl rfl ?aP (fun _ hk => hk.elim) ?aF ?aO ?aB ?aS ?aL ?_; (case aP => exact rfl); (case aF => exact (fun k_ hk_ => ⟨by have := HRG.out.owns.lt; omega, by have := HRG.out.lt; omega⟩)); (case aO => exact HO1.out); (case aB => exact HB1.out); (case aS => exact below_size HB1.out); (case aL => have := hN.out.1; have := HL.out; simp only [List.length_map]; omega); intro v166 w26 ho hb hg hat; have HRG2 := Aside0.mk (HRG.out.kept hg (fun e => (HO1.out.1 _ e.symm).1 rfl) (fun e => (HO1.out.1 _ e.symm).2 rfl)); have HO2 := Aside0.mk ho; have HB2 := Aside0.mk hb; clear ho hb hg hat HRG HO1 HB1))
      | (go_at_call 81; go_loud (obtain ⟨Ao, co, eo⟩ := Kd.R_slice HO.out; subst eo; have HQ := Kd.R_reads' HO.out; (with_reducible refine (impl_sortedSet_calls Ao co (ss.map mkS) r _ HQ.2.2 HQ.2.1 (by have := hN.out.1; have := HL.out; simp only [List.length_map]; omega) hN.out.2 HA.out (fun s => (collected_mem hC.out HD0.out HK.out s).symm)).mono ?_); rintro e w5 ⟨v9, rfl, ho9, hb9⟩; have HO9 := Aside0.mk (Kd.R_lower ho9 (below_size HB.out)); have HB9 := Aside0.mk (below_step HB.out hb9); clear ho9 hb9 HQ))
      | go_in)
    · refine ⟨⟨ss ++ [x], _, cnt1, HRG2.out, HC1, ⟨by have := hN.out.1; have := HLT.out; simp only [List.length_append, List.length_singleton]; omega, by
        intro s hs; rw [List.map_append, List.mem_append] at hs; rcases hs with hs | hs
        · exact hN.out.2 s hs
        · rw [List.map_singleton, List.mem_singleton] at hs; rw [hs]; have := HXL.out; show x.toArray.size ≤ _; simpa using this⟩, ⟨by rw [List.map_append]; exact HO2.out⟩, HB2⟩, ?_⟩
      rw [HRG2.out.left_eq, HOR.out.left_eq]; exact HLT.out
    · go_ret; exact ⟨_, rfl, HO9.out, HB9.out⟩
theorem mem_delS (l : List ByteArray) (s x : ByteArray) : x ∈ delS l s ↔ (x ∈ l ∧ x ≠ s) := by
  unfold delS; rw [List.mem_filter, decide_eq_true_iff]; constructor
  · exact fun h => ⟨h.1, fun e => h.2 (by rw [e])⟩
  · exact fun h => ⟨h.1, fun e => h.2 (toList_inj e)⟩
theorem asc_delS {l : List ByteArray} (h : asc l) (s : ByteArray) : asc (delS l s) := h.filter _
def runGo : List ByteArray → List ByteArray → List ByteArray
 | ks, [] => ks
 | ks, a :: r => runGo (insS ks a) r
def actsGo : List ByteArray → List S62 → List ByteArray
 | ks, [] => ks
 | ks, a :: r => actsGo (if a.f0 = 1 then delS ks a.f1 else insS ks a.f1) r
def impl_ApplyActs.f (a0 : List ByteArray) (a1 : List S62) : Option (List ByteArray) := if 2000 < a0.length ∨ 2000 < a1.length then some [] else if (a0.all fun s => decide (s.size ≤ 9223372036854775807)) = true ∧ (a1.all fun s => decide (s.f1.size ≤ 9223372036854775807)) = true then some (actsGo (runGo [] a0) a1) else none
theorem runGo_at (l : List ByteArray) (k : Nat) (h : k < l.length) (ks : List ByteArray) : runGo ks (l.drop k) = runGo (insS ks l[k]) (l.drop (k + 1)) := by rw [List.drop_eq_getElem_cons h, runGo]
theorem actsGo_at (l : List S62) (k : Nat) (h : k < l.length) (ks : List ByteArray) : actsGo ks (l.drop k) = actsGo (if (rd_T62 l (k : Int)).f0 = 1 then delS ks (rd_T62 l (k : Int)).f1 else insS ks (rd_T62 l (k : Int)).f1) (l.drop (k + 1)) := by
  have e : rd_T62 l (k : Int) = l[k] := by
    unfold rd_T62; simp [List.getD_eq_getElem?_getD, List.getElem?_eq_getElem h]
  rw [List.drop_eq_getElem_cons h, actsGo, e]
theorem rd_T62_mem (l : List S62) (k : Nat) (h : k < l.length) : rd_T62 l (k : Int) ∈ l := by
  have e : rd_T62 l (k : Int) = l[k] := by
    unfold rd_T62; simp [List.getD_eq_getElem?_getD, List.getElem?_eq_getElem h]
  rw [e]; exact List.getElem_mem h
set_option maxHeartbeats 4000000 in
set_option maxRecDepth 100000 in
theorem impl_ApplyActs.calls (A0 : Option Addr) (c0 : Nat) (l0 : List ByteArray) (A1 : Option Addr) (c1 : Nat) (l1 : List (S62)) (r : List ByteArray) (w : World) (hr0 : Kd.C Kd.string w A0 l0.length l0) (hc0 : l0.length ≤ c0) (hr1 : Kd.C k62 w A1 l1.length l1) (hc1 : l1.length ≤ c1) (h : impl_ApplyActs.f l0 l1 = some r) :
    Calls Try.prog 22 #[.slice A0 l0.length c0, .slice A1 l1.length c1] w fun e w' => ∃ v0_ : Value, e = .returned (v0_) ∧ Kd.R Kd.string 9 w' w.heap.size (fun _ => True) v0_ r ∧ Below w.heap.size w w' := by
  have HR0 := Aside0.mk hr0; have HR1 := Aside0.mk hr1; have HB := Aside0.mk (Below.refl w.heap.size w); clear hr0 hr1 hc0 hc1; unfold impl_ApplyActs.f at h; have hmm := @run_makeMap Try.prog; by_cases g0 : 2000 < l0.length
  · rw [if_pos (Or.inl g0)] at h; obtain rfl := Option.some.inj h; have g0b : decide ((2000 : Int) < (l0.length : Int)) = true := decide_eq_true (by omega); clear h g0; go_enter Try.func22, Try.ntmps22; go_wp2; go_ret; exact ⟨_, rfl, Kd.R_nil _ _ _ _ _, HB.out⟩
  · by_cases g1 : 2000 < l1.length
    · rw [if_pos (Or.inr g1)] at h; obtain rfl := Option.some.inj h; have g0b : decide ((2000 : Int) < (l0.length : Int)) = false := decide_eq_false (by omega); have g1b : decide ((2000 : Int) < (l1.length : Int)) = true := decide_eq_true (by omega); clear h g0 g1; go_enter Try.func22, Try.ntmps22; go_wp2; go_ret; exact ⟨_, rfl, Kd.R_nil _ _ _ _ _, HB.out⟩
    · rw [if_neg (by omega)] at h; split at h
      · rename_i hs; have HZ0 := Aside0.mk (show ∀ s ∈ l0, s.size ≤ maxLen from fun s hs_ => by have := List.all_eq_true.mp hs.1 s hs_; simpa [maxLen] using this); have HZ1 := Aside0.mk (show ∀ s ∈ l1, s.f1.size ≤ maxLen from fun s hs_ => by have := List.all_eq_true.mp hs.2 s hs_; simpa [maxLen] using this); have HR := Aside0.mk (Option.some.inj h); have HL0 := Aside0.mk (show l0.length ≤ 2000 by omega); have HL1 := Aside0.mk (show l1.length ≤ 2000 by omega); have g0b : decide ((2000 : Int) < (l0.length : Int)) = false := decide_eq_false (by omega); have g1b : decide ((2000 : Int) < (l1.length : Int)) = false := decide_eq_false (by omega); clear h g0 g1 hs; go_enter Try.func22, Try.ntmps22; go_wp2; go_loopw [21] (fun i wr => ∃ (x : Int) (k : Nat) (D : DataW Unit) (ks : List ByteArray), i = .int .i64 x ∧ Aside0 (x = (k : Int) ∧ k ≤ l0.length) ∧ wr.ownsMap Try.prog 9 (plainElem Try.prog 4) w.heap.size k D ∧ Aside0 (asc ks ∧ keyed D (fun s => s ∈ ks) ∧ actsGo (runGo ks (l0.drop k)) l1 = r) ∧ Aside0 (Below w.heap.size w wr))
          (fun i _ => l0.length - (intOf i).toNat)
        (case atStart => exact ⟨0, 0, .map [], [], rfl, ⟨rfl, Nat.zero_le _⟩, World.ownsMap_made _ _ _ _, ⟨by simp [asc], by simpa using keyed_nil, HR.out⟩, ⟨(Below.refl _ _).alloc (Nat.le_refl _) _⟩⟩); case round =>
          clear HR HB; obtain ⟨x, k, D, ks, rfl, hk, hown, hkd, hnx⟩ := hrel; by_cases hlt : k < l0.length
          · have cb : decide (x < (l0.length : Int)) = true := decide_eq_true (by have := hk.out.1; omega); have p : 0 ≤ x := by have := hk.out.1; omega
            have q : x < (l0.length : Int) := by have := hk.out.1; omega
            obtain ⟨s, hs⟩ : ∃ s, rdOf ByteArray.empty l0 x = s := ⟨_, rfl⟩; obtain ⟨ad, e, hx⟩ := Kd.at_string (Kd.C_below HR0.out hnx.out) x p q; cases e; rw [hs] at hx; replace p := eq_true p; replace q := eq_true q; have hs' : l0[k] = s := by
              rw [← hs, atS_rd, ← atS_get l0 k hlt]; have := hk.out.1; subst this; rfl
            have hss : s.size ≤ maxLen := by
              rw [← hs']; exact HZ0.out _ (List.getElem_mem hlt)
            have hkey : keyOf Try.prog 9 (.string s) = some (skey s) := Go.WideMaps.keyOf_string_mk Try.underlying9 hss; have hn : k < maxLen := by have := HL0.out; unfold maxLen; omega
            have hkd' : Aside0 (asc (insS ks s) ∧ keyed (D.put (skey s) (.lit (.bool true))) (fun x => x ∈ insS ks s) ∧ actsGo (runGo (insS ks s) (l0.drop (k + 1))) l1 = r) := ⟨asc_insS hkd.out.1 s, fun y => (keyed_put hkd.out.2.1 hown.isMap s (.lit (.bool true)) y).trans (mem_insS ks s y).symm, by rw [← hkd.out.2.2, runGo_at l0 k hlt, hs']⟩; have hlt' := Aside0.mk hlt; clear hs hs' hss hlt hkd; go_wp2_with (first
              | (at_mapUpdate; go_loud (refine wpList_mapUpdate_own _ rfl _ _ _ 74 rfl 9 4 (Go.Maps.string_keyed Try.underlying9) Try.underlying74 _ w.heap.size k _ rfl hown hn _ _ _ rfl rfl hkey _ [] (plainElem_bool Try.underlying4 true) ?_))
              | go_in)
            intro w1 hown1 hgrow1; have R2 := Aside0.mk (hnx.out.grown hgrow1 hnx.out.size (fun j hj => by cases hj; exact Nat.le_refl _)); clear hgrow1 hown hkey hnx; go_wp2; go_roundw; (case rel => exact ⟨_, k + 1, _, _, rfl, ⟨by have := hk.out; have := HL0.out; unfold wrap64; omega, hlt'.out⟩, hown1, hkd', R2⟩); case measure =>
              have := hk.out; have := HL0.out; have := hlt'.out; have e : wrap64 (x + 1) = x + 1 := by unfold wrap64; omega
              simp [intOf, e]; omega
          · have cb : decide (x < (l0.length : Int)) = false := decide_eq_false (by have := hk.out; omega); have e : k = l0.length := by have := hk.out.2; omega
            subst e; have hkd' : Aside0 (asc ks ∧ keyed D (fun s => s ∈ ks) ∧ actsGo ks l1 = r) := ⟨hkd.out.1, hkd.out.2.1, by have := hkd.out.2.2; rwa [List.drop_length, runGo] at this⟩; have HB := hnx; clear hlt hkd hnx; go_wp2; go_loopw [30] (fun i wr => ∃ (x : Int) (k : Nat) (D : DataW Unit) (ks : List ByteArray), i = .int .i64 x ∧ Aside0 (x = (k : Int) ∧ k ≤ l1.length) ∧ wr.ownsMap Try.prog 9 (plainElem Try.prog 4) w.heap.size (l0.length + k) D ∧ Aside0 (asc ks ∧ keyed D (fun s => s ∈ ks) ∧ actsGo ks (l1.drop k) = r) ∧ Aside0 (Below w.heap.size w wr))
              (fun i _ => l1.length - (intOf i).toNat)
            (case atStart => exact ⟨0, 0, D, ks, rfl, ⟨rfl, Nat.zero_le _⟩, hown, ⟨hkd'.out.1, hkd'.out.2.1, hkd'.out.2.2⟩, HB⟩); case round =>
              clear hown hkd' HB hk cb; obtain ⟨x2, k2, D2, ks2, rfl, hk, hown, hkd, hnx⟩ := hrel; by_cases hlt : k2 < l1.length
              · have cb : decide (x2 < (l1.length : Int)) = true := decide_eq_true (by have := hk.out.1; omega); have p : 0 ≤ x2 := by have := hk.out.1; omega
                have q : x2 < (l1.length : Int) := by have := hk.out.1; omega
                obtain ⟨kd, hkd0⟩ : ∃ s, (rd_T62 l1 x2).f0 = s := ⟨_, rfl⟩; obtain ⟨s, hs⟩ : ∃ s, (rd_T62 l1 x2).f1 = s := ⟨_, rfl⟩; obtain ⟨ad, e, hx0, hx1⟩ := at_T62 (Kd.C_below HR1.out hnx.out) x2 p q; cases e; rw [hkd0] at hx0; rw [hs] at hx1; replace p := eq_true p; replace q := eq_true q; have hs0 : (rd_T62 l1 (k2 : Int)).f0 = kd := by rw [← hk.out.1]; exact hkd0
                have hs1 : (rd_T62 l1 (k2 : Int)).f1 = s := by rw [← hk.out.1]; exact hs
                have hss : s.size ≤ maxLen := by
                  rw [← hs1]; exact HZ1.out _ (rd_T62_mem l1 k2 hlt)
                have hkey : keyOf Try.prog 9 (.string s) = some (skey s) := Go.WideMaps.keyOf_string_mk Try.underlying9 hss; have hn : l0.length + k2 < maxLen := by have := HL0.out; have := HL1.out; unfold maxLen; omega
                have G := hkd.out.2.2; rw [actsGo_at l1 k2 hlt, hs0, hs1] at G; have hlt' := Aside0.mk hlt; by_cases hkind : kd = 1
                · rw [if_pos hkind] at G; have kb : (kd == 1) = true := beq_iff_eq.mpr hkind; have hkd' : Aside0 (asc (delS ks2 s) ∧ keyed (D2.del (skey s)) (fun x => x ∈ delS ks2 s) ∧ actsGo (delS ks2 s) (l1.drop (k2 + 1)) = r) := ⟨asc_delS hkd.out.1 s, fun y => (keyed_del hkd.out.2.1 s y).trans (mem_delS ks2 s y).symm, G⟩; clear hkd0 hs hs0 hs1 hss hlt hkd G hkind; go_wp2_with (first
                    | (at_delete; go_loud (refine wpList_delete_own _ rfl _ _ 74 9 rfl 4 (Go.Maps.string_keyed Try.underlying9) Try.underlying74 _ w.heap.size _ _ rfl (hown.alloc _) _ _ rfl hkey ?_))
                    | go_in)
                  intro w1 hown1 hturn1; have hgrow1 := hturn1.grown; have R2 := Aside0.mk (((hnx.out.alloc (hnx.out.size) (.cells #[.int .i64 kd, .string s] 62))).grown hgrow1 (below_size (hnx.out.alloc (hnx.out.size) (.cells #[.int .i64 kd, .string s] 62))) (fun j hj => by cases hj; exact Nat.le_refl _)); clear hgrow1 hown hkey hnx; go_wp2; go_roundw; (case rel => exact ⟨_, k2 + 1, _, _, rfl, ⟨zf0, hlt'.out⟩, hown1.mono (by omega), hkd', R2⟩); case measure =>
                    have := hk.out; have := HL1.out; have := hlt'.out; have e : wrap64 (x2 + 1) = x2 + 1 := by unfold wrap64; omega
                    simp [intOf, e]; omega
                · rw [if_neg hkind] at G; have kb : (kd == 1) = false := beq_eq_false_iff_ne.mpr hkind; have hkd' : Aside0 (asc (insS ks2 s) ∧ keyed (D2.put (skey s) (.lit (.bool true))) (fun x => x ∈ insS ks2 s) ∧ actsGo (insS ks2 s) (l1.drop (k2 + 1)) = r) := ⟨asc_insS hkd.out.1 s, fun y => (keyed_put hkd.out.2.1 hown.isMap s (.lit (.bool true)) y).trans (mem_insS ks2 s y).symm, G⟩; clear hkd0 hs hs0 hs1 hss hlt hkd G hkind; go_wp2_with (first
                    | (at_mapUpdate; go_loud (refine wpList_mapUpdate_own _ rfl _ _ _ 74 rfl 9 4 (Go.Maps.string_keyed Try.underlying9) Try.underlying74 _ w.heap.size _ _ rfl (hown.alloc _) hn _ _ _ rfl rfl hkey _ [] (plainElem_bool Try.underlying4 true) ?_))
                    | go_in)
                  intro w1 hown1 hgrow1; have R2 := Aside0.mk (((hnx.out.alloc (hnx.out.size) (.cells #[.int .i64 kd, .string s] 62))).grown hgrow1 (below_size (hnx.out.alloc (hnx.out.size) (.cells #[.int .i64 kd, .string s] 62))) (fun j hj => by cases hj; exact Nat.le_refl _)); clear hgrow1 hown hkey hnx; go_wp2; go_roundw; (case rel => exact ⟨_, k2 + 1, _, _, rfl, ⟨zf0, hlt'.out⟩, hown1, hkd', R2⟩); case measure =>
                    have := hk.out; have := HL1.out; have := hlt'.out; have e : wrap64 (x2 + 1) = x2 + 1 := by unfold wrap64; omega
                    simp [intOf, e]; omega
              · have cb : decide (x2 < (l1.length : Int)) = false := decide_eq_false (by have := hk.out; omega); have e : k2 = l1.length := by have := hk.out.2; omega
                subst e; have hkd' : Aside0 (asc ks2 ∧ keyed D2 (fun s => s ∈ ks2) ∧ ks2 = r) := ⟨hkd.out.1, hkd.out.2.1, by have := hkd.out.2.2; rwa [List.drop_length, actsGo] at this⟩; have HB := hnx; have hown' := Aside0.mk hown; clear hlt hkd hnx hown; go_wp2_with (first
                  | (go_at_call 57; go_loud ((with_reducible refine (impl_keysOf_calls w.heap.size (l0.length + l1.length) D2 r _ hown'.out (by have := HL0.out; have := HL1.out; omega) (hkd'.out.2.2 ▸ hkd'.out.1) (hkd'.out.2.2 ▸ hkd'.out.2.1)).mono ?_); rintro e w5 ⟨v9, rfl, ho9, hb9⟩; have HO9 := Aside0.mk (Kd.R_lower ho9 (below_size HB.out)); have HB9 := Aside0.mk (below_step HB.out hb9); clear ho9 hb9))
                  | go_in)
                go_ret; exact ⟨_, rfl, HO9.out, HB9.out⟩
      · exact absurd h (by simp)

/-! ### spec_l3Has: function 60 -/
def spec_l3Has.l0 : Nat → List ByteArray → ByteArray → Int → Option (Bool)
 | 0, _, _, _ => none
 | k + 1, x0, x1, x5 => if x5 < (x0.length : Int) then (if 0 ≤ x5 then (if (rdOf ByteArray.empty x0 x5).toList = x1.toList then (some true) else (spec_l3Has.l0 k x0 x1 (wrap64 (x5 + 1)))) else (none)) else (some false)
def spec_l3Has.f (k : Nat) (l0 : List ByteArray) (a1 : ByteArray) : Option (Bool) := spec_l3Has.l0 k l0 a1 0
theorem spec_l3Has.mono_l : ∀ k, (∀ y0 y1 y2, LeO (spec_l3Has.l0 k y0 y1 y2) (spec_l3Has.l0 (k + 1) y0 y1 y2))
 | 0 => fun _ _ _ r h => by simp [spec_l3Has.l0] at h
 | k + 1 => by
  have ih0 := spec_l3Has.mono_l k
  ·intro y0 y1 y2; unfold spec_l3Has.l0
   repeat' first
   | (with_reducible exact ih0 _ _ _)
   | (with_reducible exact LeO.refl _)
   | (with_reducible exact LeO.none _)
   | (with_reducible refine LeO.ite ?_ ?_)
   | (with_reducible refine LeO.bind ?_ (fun _ => ?_))
   | exact ih0 _ _ _
   | exact LeO.none _
   | refine LeO.ite ?_ ?_
   | refine LeO.bind ?_ (fun _ => ?_)
theorem spec_l3Has.mono : ∀ a0 a1 k, LeO (spec_l3Has.f k a0 a1) (spec_l3Has.f (k + 1) a0 a1) := by
 intro a0 a1 k; have ih0 := spec_l3Has.mono_l k; unfold spec_l3Has.f
 repeat' first
   | (with_reducible exact ih0 _ _ _)
   | (with_reducible exact LeO.refl _)
   | (with_reducible exact LeO.none _)
   | (with_reducible refine LeO.ite ?_ ?_)
   | (with_reducible refine LeO.bind ?_ (fun _ => ?_))
   | exact ih0 _ _ _
   | exact LeO.none _
   | refine LeO.ite ?_ ?_
   | refine LeO.bind ?_ (fun _ => ?_)
set_option maxHeartbeats 8000000 in
set_option maxRecDepth 100000 in
theorem spec_l3Has.calls (k : Nat) (A0 : Option Addr) (c0 : Nat) (l0 : List ByteArray) (a1 : ByteArray) (r : Bool) (w : World) (hr0 : Kd.C Kd.string w A0 l0.length l0) (hc0 : l0.length ≤ c0) (h : spec_l3Has.f k l0 a1 = some r) :
  Calls Try.prog 60 #[.slice A0 l0.length c0, .string a1] w fun e w' => e = .returned (.bool r) ∧ Drawn0 w w' := by
 have HR0 := Aside0.mk hr0; have HC0 := Aside0.mk hc0; clear hr0 hc0; have H : (spec_l3Has.l0 k l0 a1 0) = some r := h; clear h; have H' := Aside0.mk H; clear H; go_enter Try.func60, Try.ntmps60; go_wp2; go_loopg [5] k (fun kq v5 w' => ∃ (x5_1 : Int), v5 = .int .i64 x5_1 ∧ Aside0 (spec_l3Has.l0 kq l0 a1 x5_1 = some r) ∧ Aside0 (kq ≤ k) ∧ Drawn0 w w'); (case atStart => exact ⟨(0), zf1, H', ⟨Nat.le_refl _⟩, zf2⟩); case round =>
  clear H'; (try clear p2); obtain ⟨x5_1, rfl, HA, HK1, ⟨m1, rfl⟩⟩ := hrel
  cases gk with
  | zero => exact absurd HA.out (by simp [spec_l3Has.l0])
  | succ k1 =>
   have H := HA.out; clear HA; simp only [spec_l3Has.l0] at H; by_cases c3 : x5_1 < (l0.length : Int)
   ·rw [if_pos c3] at H; have c3b0 : decide (x5_1 < (l0.length : Int)) = true := decide_eq_true c3; clear c3; by_cases c4 : 0 ≤ x5_1
    ·rw [if_pos c4] at H; have c4b0 : decide (0 ≤ x5_1) = true := decide_eq_true c4; clear c4; by_cases c5 : (rdOf ByteArray.empty l0 x5_1).toList = a1.toList
     ·rw [if_pos c5] at H; have c5b0 : ((rdOf ByteArray.empty l0 x5_1).toList == a1.toList) = true := beq_iff_eq.mpr c5; have c5b1 : ((rdOf ByteArray.empty l0 x5_1).toList != a1.toList) = false := bne_eq_false_iff_eq.mpr c5; clear c5; obtain rfl := Option.some.inj H; have p135 : 0 ≤ (x5_1 : Int) := of_decide_eq_true zf3; have q135 : x5_1 < (l0.length : Int) := of_decide_eq_true zf3; obtain ⟨ad135, e135, hx135_0⟩ := Kd.at_string HR0.out x5_1 p135 q135; cases e135; replace p135 := eq_true p135; replace q135 := eq_true q135; go_wp2; go_ret; exact ⟨zf1, zf2⟩
     ·rw [if_neg c5] at H; have c5b0 : ((rdOf ByteArray.empty l0 x5_1).toList == a1.toList) = false := beq_eq_false_iff_ne.mpr c5; have c5b1 : ((rdOf ByteArray.empty l0 x5_1).toList != a1.toList) = true := bne_iff_ne.mpr c5; have H' := Aside0.mk H; clear H; have p135 : 0 ≤ (x5_1 : Int) := of_decide_eq_true zf3; have q135 : x5_1 < (l0.length : Int) := of_decide_eq_true zf3; obtain ⟨ad135, e135, hx135_0⟩ := Kd.at_string HR0.out x5_1 p135 q135; cases e135; replace p135 := eq_true p135; replace q135 := eq_true q135; go_wp2; go_roundg k1; (case measure => have := HK1.out; omega); case rel => exact ⟨(wrap64 (x5_1 + 1)), zf1, H', ⟨by have := HK1.out; omega⟩, zf2⟩
    ·rw [if_neg c4] at H; exact absurd H (by simp)
   ·rw [if_neg c3] at H; have c3b0 : decide (x5_1 < (l0.length : Int)) = false := decide_eq_false c3; clear c3; obtain rfl := Option.some.inj H; go_wp2; go_ret; exact ⟨zf1, zf2⟩

/-! ### spec_l18Find: function 61 -/
def spec_l18Find.l0 : Nat → List (S55) → ByteArray → Int → Option (Int)
 | 0, _, _, _ => none
 | k + 1, x0, x1, x5 => if x5 < (x0.length : Int) then (if 0 ≤ x5 then (if ((rd_T55 x0 x5).f0).toList = x1.toList then (some x5) else (spec_l18Find.l0 k x0 x1 (wrap64 (x5 + 1)))) else (none)) else (some (-1))
def spec_l18Find.f (k : Nat) (l0 : List (S55)) (a1 : ByteArray) : Option (Int) := spec_l18Find.l0 k l0 a1 0
theorem spec_l18Find.mono_l : ∀ k, (∀ y0 y1 y2, LeO (spec_l18Find.l0 k y0 y1 y2) (spec_l18Find.l0 (k + 1) y0 y1 y2))
 | 0 => fun _ _ _ r h => by simp [spec_l18Find.l0] at h
 | k + 1 => by
  have ih0 := spec_l18Find.mono_l k
  ·intro y0 y1 y2; unfold spec_l18Find.l0
   repeat' first
   | (with_reducible exact ih0 _ _ _)
   | (with_reducible exact LeO.refl _)
   | (with_reducible exact LeO.none _)
   | (with_reducible refine LeO.ite ?_ ?_)
   | (with_reducible refine LeO.bind ?_ (fun _ => ?_))
   | exact ih0 _ _ _
   | exact LeO.none _
   | refine LeO.ite ?_ ?_
   | refine LeO.bind ?_ (fun _ => ?_)
theorem spec_l18Find.mono : ∀ a0 a1 k, LeO (spec_l18Find.f k a0 a1) (spec_l18Find.f (k + 1) a0 a1) := by
 intro a0 a1 k; have ih0 := spec_l18Find.mono_l k; unfold spec_l18Find.f
 repeat' first
   | (with_reducible exact ih0 _ _ _)
   | (with_reducible exact LeO.refl _)
   | (with_reducible exact LeO.none _)
   | (with_reducible refine LeO.ite ?_ ?_)
   | (with_reducible refine LeO.bind ?_ (fun _ => ?_))
   | exact ih0 _ _ _
   | exact LeO.none _
   | refine LeO.ite ?_ ?_
   | refine LeO.bind ?_ (fun _ => ?_)
set_option maxHeartbeats 8000000 in
set_option maxRecDepth 100000 in
theorem spec_l18Find.calls (k : Nat) (A0 : Option Addr) (c0 : Nat) (l0 : List (S55)) (a1 : ByteArray) (r : Int) (w : World) (hr0 : Kd.C k55 w A0 l0.length l0) (hc0 : l0.length ≤ c0) (h : spec_l18Find.f k l0 a1 = some r) :
  Calls Try.prog 61 #[.slice A0 l0.length c0, .string a1] w fun e w' => e = .returned (.int .i64 r) ∧ Drawn0 w w' := by
 have HR0 := Aside0.mk hr0; have HC0 := Aside0.mk hc0; clear hr0 hc0; have H : (spec_l18Find.l0 k l0 a1 0) = some r := h; clear h; have H' := Aside0.mk H; clear H; go_enter Try.func61, Try.ntmps61; go_wp2; go_loopg [5] k (fun kq v5 w' => ∃ (x5_1 : Int), v5 = .int .i64 x5_1 ∧ Aside0 (spec_l18Find.l0 kq l0 a1 x5_1 = some r) ∧ Aside0 (kq ≤ k) ∧ Drawn0 w w'); (case atStart => exact ⟨(0), zf1, H', ⟨Nat.le_refl _⟩, zf2⟩); case round =>
  clear H'; (try clear p2); obtain ⟨x5_1, rfl, HA, HK1, ⟨m1, rfl⟩⟩ := hrel
  cases gk with
  | zero => exact absurd HA.out (by simp [spec_l18Find.l0])
  | succ k1 =>
   have H := HA.out; clear HA; simp only [spec_l18Find.l0] at H; by_cases c3 : x5_1 < (l0.length : Int)
   ·rw [if_pos c3] at H; have c3b0 : decide (x5_1 < (l0.length : Int)) = true := decide_eq_true c3; clear c3; by_cases c4 : 0 ≤ x5_1
    ·rw [if_pos c4] at H; have c4b0 : decide (0 ≤ x5_1) = true := decide_eq_true c4; clear c4; by_cases c5 : ((rd_T55 l0 x5_1).f0).toList = a1.toList
     ·rw [if_pos c5] at H; have c5b0 : (((rd_T55 l0 x5_1).f0).toList == a1.toList) = true := beq_iff_eq.mpr c5; have c5b1 : (((rd_T55 l0 x5_1).f0).toList != a1.toList) = false := bne_eq_false_iff_eq.mpr c5; clear c5; obtain rfl := Option.some.inj H; have p136 : 0 ≤ (x5_1 : Int) := of_decide_eq_true zf3; have q136 : x5_1 < (l0.length : Int) := of_decide_eq_true zf3; obtain ⟨ad136, A136_1, c136_1, A136_2, c136_2, e136, hx136_0, hx136_1, hx136_2, hx136_3, hx136_4, hl136_1, hi136_1, hl136_2, hi136_2⟩ := at_T55 HR0.out x5_1 p136 q136; cases e136; have HR136_1 := Aside0.mk hi136_1; have HC136_1 := Aside0.mk hl136_1; clear hi136_1 hl136_1; have HR136_2 := Aside0.mk hi136_2; have HC136_2 := Aside0.mk hl136_2; clear hi136_2 hl136_2; replace p136 := eq_true p136; replace q136 := eq_true q136; go_wp2; go_ret; exact ⟨zf1, zf2⟩
     ·rw [if_neg c5] at H; have c5b0 : (((rd_T55 l0 x5_1).f0).toList == a1.toList) = false := beq_eq_false_iff_ne.mpr c5; have c5b1 : (((rd_T55 l0 x5_1).f0).toList != a1.toList) = true := bne_iff_ne.mpr c5; have H' := Aside0.mk H; clear H; have p136 : 0 ≤ (x5_1 : Int) := of_decide_eq_true zf3; have q136 : x5_1 < (l0.length : Int) := of_decide_eq_true zf3; obtain ⟨ad136, A136_1, c136_1, A136_2, c136_2, e136, hx136_0, hx136_1, hx136_2, hx136_3, hx136_4, hl136_1, hi136_1, hl136_2, hi136_2⟩ := at_T55 HR0.out x5_1 p136 q136; cases e136; have HR136_1 := Aside0.mk hi136_1; have HC136_1 := Aside0.mk hl136_1; clear hi136_1 hl136_1; have HR136_2 := Aside0.mk hi136_2; have HC136_2 := Aside0.mk hl136_2; clear hi136_2 hl136_2; replace p136 := eq_true p136; replace q136 := eq_true q136; go_wp2; go_roundg k1; (case measure => have := HK1.out; omega); case rel => exact ⟨(wrap64 (x5_1 + 1)), zf1, H', ⟨by have := HK1.out; omega⟩, zf2⟩
    ·rw [if_neg c4] at H; exact absurd H (by simp)
   ·rw [if_neg c3] at H; have c3b0 : decide (x5_1 < (l0.length : Int)) = false := decide_eq_false c3; clear c3; obtain rfl := Option.some.inj H; go_wp2; go_ret; exact ⟨zf1, zf2⟩

end Go.Proofs.Ytnahkojlamficaa.PFnPlanReaches
