-- Laid by a program of this session: a turned copy of the kit's print, with contracts by hand beside.
import Derived.Test.YtnahkojlamficaaPFnExactApplyActsx0
namespace Go.Proofs.Ytnahkojlamficaa.PFnExactApplyActs
open Go.RowKit Go.Proofs.YtnahkojlamficaaW.PrintWords Go.Proofs.YtnahkojlamficaaW.PrintLast Go.Proofs.YtnahkojlamficaaW.PrintMore
attribute [local go_sem] max2_int min2_int max_two min_two max_three min_three max_four min_four   -- for this text's walks alone
set_option linter.unusedVariables false
set_option linter.unusedSimpArgs false

/-! ### impl_ApplyActs: function 22 -/
set_option maxHeartbeats 4000000 in
set_option maxRecDepth 100000 in
theorem impl_sortedSet_calls (A0 : Option Addr) (c0 : Nat) (l0 : List ByteArray) (r : List ByteArray) (w : World) (hr0 : Kd.C Kd.string w A0 l0.length l0) (hc0 : l0.length ≤ c0) (hlen : l0.length ≤ 100000) (hsz : ∀ s ∈ l0, s.size ≤ maxLen) (hasc : asc r) (hmem : ∀ s, s ∈ r ↔ s ∈ l0) :
    Calls Try.prog 81 #[.slice A0 l0.length c0] w fun e w' => ∃ v0_ : Value, e = .returned (v0_) ∧ Kd.R Kd.string 9 w' w.heap.size (fun _ => True) v0_ r ∧ Below w.heap.size w w' := by
  have HR0 := Aside0.mk hr0
  have HC0 := Aside0.mk hc0
  have HL := Aside0.mk hlen
  have HZ := Aside0.mk hsz
  have HA := Aside0.mk hasc
  have HM := Aside0.mk hmem
  clear hr0 hc0 hlen hsz hasc hmem
  have hmm := @run_makeMap Try.prog
  go_enter Try.func81, Try.ntmps81
  go_wp2
  go_loopw [13] (fun i wr => ∃ (x : Int) (k : Nat) (D : DataW Unit), i = .int .i64 x ∧ Aside0 (x = (k : Int) ∧ k ≤ l0.length) ∧ wr.ownsMap Try.prog 9 (plainElem Try.prog 4) w.heap.size k D ∧ Aside0 (keyed D (fun s => s ∈ l0.take k)) ∧ Aside0 (Below w.heap.size w wr))
    (fun i _ => l0.length - (intOf i).toNat)
  case atStart => exact ⟨0, 0, .map [], rfl, ⟨rfl, Nat.zero_le _⟩, World.ownsMap_made _ _ _ _, ⟨by simpa using keyed_nil⟩, ⟨(Below.refl _ _).alloc (Nat.le_refl _) _⟩⟩
  case round =>
    obtain ⟨x, k, D, rfl, hk, hown, hkd, hnx⟩ := hrel
    by_cases hlt : k < l0.length
    · have cb : decide (x < (l0.length : Int)) = true := decide_eq_true (by have := hk.out.1; omega)
      have p : 0 ≤ x := by have := hk.out.1; omega
      have q : x < (l0.length : Int) := by have := hk.out.1; omega
      obtain ⟨s, hs⟩ : ∃ s, rdOf ByteArray.empty l0 x = s := ⟨_, rfl⟩
      obtain ⟨ad, e, hx⟩ := Kd.at_string (Kd.C_below HR0.out hnx.out) x p q
      cases e
      rw [hs] at hx
      replace p := eq_true p
      replace q := eq_true q
      have hs' : l0[k] = s := by
        rw [← hs, atS_rd, ← atS_get l0 k hlt]
        have := hk.out.1
        subst this
        rfl
      have hss : s.size ≤ maxLen := by
        rw [← hs']
        exact HZ.out _ (List.getElem_mem hlt)
      have hkey : keyOf Try.prog 9 (.string s) = some (skey s) := Go.WideMaps.keyOf_string_mk Try.underlying9 hss
      have hn : k < maxLen := by have := HL.out; unfold maxLen; omega
      have hkd' : Aside0 (keyed (D.put (skey s) (.lit (.bool true))) (fun x => x ∈ l0.take (k + 1))) := ⟨by
        have := keyed_put hkd.out hown.isMap s (.lit (.bool true))
        rw [← List.take_append_getElem hlt, hs']
        intro y
        refine (this y).trans ?_
        simp only [List.mem_append, List.mem_singleton]⟩
      have hlt' := Aside0.mk hlt
      clear hs hs' hss hlt hkd
      go_wp2_with (first
        | (at_mapUpdate; refine wpList_mapUpdate_own _ rfl _ _ _ 74 rfl 9 4 (Go.Maps.string_keyed Try.underlying9) Try.underlying74 _ w.heap.size k _ rfl hown hn _ _ _ rfl rfl hkey _ [] (plainElem_bool Try.underlying4 true) ?_)
        | go_in)
      intro w1 hown1 hgrow1
      have R2 := Aside0.mk (hnx.out.grown hgrow1 hnx.out.size (fun j hj => by cases hj; exact Nat.le_refl _))
      clear hgrow1 hown hkey hnx
      go_wp2
      go_roundw
      case rel => exact ⟨_, k + 1, _, rfl, ⟨by have := hk.out; have := HL.out; unfold wrap64; omega, hlt'.out⟩, hown1, hkd', R2⟩
      case measure =>
        have := hk.out
        have := HL.out
        have := hlt'.out
        have e : wrap64 (x + 1) = x + 1 := by unfold wrap64; omega
        simp [intOf, e]
        omega
    · have cb : decide (x < (l0.length : Int)) = false := decide_eq_false (by have := hk.out; omega)
      have e : k = l0.length := by have := hk.out.2; omega
      subst e
      have hkd' : Aside0 (keyed D (fun s => s ∈ l0)) := ⟨by have := hkd.out; rwa [List.take_length] at this⟩
      have HB := hnx
      have hown' := Aside0.mk hown
      clear hlt hkd hnx hown
      go_wp2_with (first
        | ((with_reducible refine gate_dst (N := 20) rfl ?_); go_loud (refine Kd.R_lit Kd.string _ 9 ?hg (N := 20) ?hd (xs := ([] : List ByteArray)) (inner := []) (ok := fun _ => True) (okp := fun _ => True) ?hr ?hp (fun _ hk => hk) trivial (Below.refl _ _) (Nat.le_refl _) (by simp) ?_; (case hd => rfl); (case hg => rfl); (case hr => first | (go_simp; done) | (go_simp; rfl)); (case hp => exact (Reps.none _ _)); intro v148 w4 ho5 hb hg_ hnew_; have hown4 := hown'.out.kept hg_ (by simp); have HB4 := Aside0.mk (below_step HB.out hb); have HO4 := Aside0.mk (Kd.R_mono (Kd.R_lower (Kd.R_bound ho5) (below_size HB.out)) (ok' := fun k_ => k_ ≠ w.heap.size ∧ k_ ≠ w4.heap.size) (fun k_ hk_ => ⟨by have := hk_.2.1; have := hown'.out.lt; omega, by have := hk_.2.2.1; omega⟩)); clear ho5 hb hg_ hnew_ HB hown'))
        | (at_range; go_loud (refine wpList_range_own _ rfl _ 74 rfl 9 4 (Go.Maps.string_keyed Try.underlying9) Try.underlying74 _ w.heap.size _ D rfl hown4 ?_; intro w0 hrg0 hg0 hs0))
        | go_in)
      go_frame
      have HB0 := Aside0.mk (HB4.out.grown hg0 (HB4.out.size) (fun j hj => by cases hj))
      have HO0 := Aside0.mk (Kd.R_step HO4.out (fun k_ _ hlt_ => hg0.block k_ hlt_ (by simp)))
      have hsz0 := Aside0.mk (ownsMap_size hown4)
      have H4 := Aside0.mk (below_size HB4.out)
      clear hown4 hg0 hs0 HB4 HO4
      go_loopw [6] (fun v6 wr2 => ∃ (ss : List (List UInt8)) (left : Lit → Bool) (cnt : Nat), wr2.ranges Try.prog 9 (plainElem Try.prog 4) w.heap.size w4.heap.size l0.length D left cnt ∧ Aside0 (Collected D left ss) ∧ Aside0 (ss.length + cnt ≤ l0.length) ∧ Aside0 (Kd.R Kd.string 9 wr2 w.heap.size (fun k_ => k_ ≠ w.heap.size ∧ k_ ≠ w4.heap.size) v6 (ss.map mkS)) ∧ Aside0 (Below w.heap.size w wr2))
        (fun _ wr2 => wr2.rangeLeft w.heap.size w4.heap.size)
      case atStart => exact ⟨[], _, _, hrg0, ⟨Collected.start D⟩, ⟨by have := hsz0.out; simpa using this⟩, HO0, HB0⟩
      case round =>
        clear HO0 HB0 hrg0 hsz0
        obtain ⟨ss, left, cnt, hrg, hC, hN, HO, HB⟩ := hrel
        go_wp2_with (first
          | (at_next; refine wpList_next_ranges _ rfl _ rfl 9 (Go.Maps.string_keyed Try.underlying9) (plainElem Try.prog 4) (fun x => Value.string (mkS x)) Value.bool (keyOf_str_inv Try.underlying9) (plainElem_bool_inv Try.underlying4) w.heap.size w4.heap.size l0.length D left cnt rfl hrg ?aD ?aM; (case' aD => (intro hc0 hl0; have HD0 := Aside0.mk hl0; clear hc0 hl0)); (case' aM => (intro x c kl y w1 cnt1 hkey hlk hv hat hrg1 hlt1 hg1 hs1 hen; obtain ⟨x', ex, rfl, _⟩ := Maps.keyOf_str Try.underlying9 hkey; obtain rfl := encStr_inj (x := x) ex; have HC1 := Aside0.mk (hC.out.step hlk hat); have HRG := Aside0.mk hrg1; have HLT := Aside0.mk hlt1; have HB1 := Aside0.mk (HB.out.grown hg1 HB.out.size (fun j hj => by cases hj; exact H4.out)); have HO1 := Aside0.mk (Kd.R_step HO.out (fun k_ hk_ hlt_ => hg1.block k_ hlt_ (fun e => hk_.2 (by injection e)))); have HOR := Aside0.mk hrg; clear hkey hlk hv hat hrg1 hlt1 hg1 hs1 hrg ex hC HO HB)))
          | ((with_reducible refine gate_builtin (b := .append) (xs := #[.tmp 27, .tmp 29]) rfl ?_); at_builtin; go_loud (refine Kd.R_append Kd.string (w0 := w) w.heap.size rfl (.tmp 27) (.tmp 29) 29 9 (.string ⟨#[]⟩) 16 rfl Try.underlying29 info9 rfl (by decide) (by omega) u6 (ss.map mkS) (mkS x) [.string (mkS x)] (fun k_ => k_ ≠ w.heap.size ∧ k_ ≠ w4.heap.size) (fun _ => False) rfl rfl ?aP (fun _ hk => hk.elim) ?aF ?aO ?aB ?aS ?aL ?_; (case aP => exact rfl); (case aF => exact (fun k_ hk_ => ⟨by have := HRG.out.owns.lt; omega, by have := HRG.out.lt; omega⟩)); (case aO => exact HO1.out); (case aB => exact HB1.out); (case aS => exact below_size HB1.out); (case aL => have := hN.out; have := HL.out; simp only [List.length_map]; omega); intro v166 w26 ho hb hg hat; have HRG2 := Aside0.mk (HRG.out.kept hg (fun e => (HO1.out.1 _ e.symm).1 rfl) (fun e => (HO1.out.1 _ e.symm).2 rfl)); have HO2 := Aside0.mk ho; have HB2 := Aside0.mk hb; clear ho hb hg hat HRG HO1 HB1))
          | go_in)
        · refine ⟨⟨ss ++ [x], _, cnt1, HRG2.out, HC1, ⟨by have := hN.out; have := HLT.out; simp only [List.length_append, List.length_singleton]; omega⟩, ⟨by rw [List.map_append]; exact HO2.out⟩, HB2⟩, ?_⟩
          rw [HRG2.out.left_eq, HOR.out.left_eq]
          exact HLT.out
        · have HM2 := Aside0.mk (fun s => collected_mem hC.out HD0.out hkd'.out s)
          have HP := Aside0.mk (apartS_of (collected_nodup hC.out))
          have HQ := Aside0.mk (Kd.R_mono HO.out (ok' := fun _ => True) (fun _ _ => trivial))
          have HN := Aside0.mk (show (ss.map mkS).length ≤ 100000 by have := hN.out; have := HL.out; simp only [List.length_map]; omega)
          obtain ⟨xs0, hxs0⟩ : ∃ xs0, ss.map mkS = xs0 := ⟨_, rfl⟩
          rw [hxs0] at HM2 HP HQ HN
          clear hxs0 hC HD0 hkd' HO hN hrg H4 HC0 HR0 HZ HL hk cb hmm
          obtain ⟨Ao, co, eo⟩ := Kd.R_slice HQ.out
          subst eo
          go_loopw [8] (fun v8 wo => ∃ (x8 : Int) (k : Nat) (xs : List ByteArray), v8 = .int .i64 x8 ∧ Aside0 (x8 = (k : Int) ∧ 1 ≤ k ∧ xs.length = xs0.length ∧ ordS xs k k ∧ apartS xs ∧ ∀ s, s ∈ xs ↔ s ∈ l0) ∧ Aside0 (Kd.R Kd.string 9 wo w.heap.size (fun _ => True) (.slice Ao xs0.length co) xs) ∧ Aside0 (Below w.heap.size w wo))
            (fun v8 _ => xs0.length - (intOf v8).toNat)
          case atStart => exact ⟨1, 1, xs0, rfl, ⟨rfl, Nat.le_refl _, rfl, fun a b hab hb hne => by omega, HP.out, HM2.out⟩, HQ, HB⟩
          case round =>
            clear HM2 HP HQ HB
            obtain ⟨x8, k, xs, rfl, hk, HQ, HB⟩ := hrel
            by_cases hlt : k < xs0.length
            · have cb : decide (x8 < (xs0.length : Int)) = true := decide_eq_true (by have := hk.out.1; omega)
              have hlt' := Aside0.mk hlt
              clear hlt
              go_wp2
              go_loopw [9] (fun v9 wi => ∃ (y : Int) (j : Nat) (ys : List ByteArray), v9 = .int .i64 y ∧ Aside0 (y = (j : Int) ∧ j ≤ k ∧ ys.length = xs0.length ∧ ordS ys k j ∧ apartS ys ∧ ∀ s, s ∈ ys ↔ s ∈ l0) ∧ Aside0 (Kd.R Kd.string 9 wi w.heap.size (fun _ => True) (.slice Ao xs0.length co) ys) ∧ Aside0 (Below w.heap.size w wi))
                (fun v9 _ => (intOf v9).toNat)
              case atStart => exact ⟨x8, k, xs, rfl, ⟨hk.out.1, Nat.le_refl _, hk.out.2.2.1, hk.out.2.2.2.1, hk.out.2.2.2.2.1, hk.out.2.2.2.2.2⟩, HQ, HB⟩
              case round =>
                clear HQ HB
                obtain ⟨y, j, ys, rfl, hj, HQ, HB⟩ := hrel
                by_cases h0 : 0 < y
                · have g0 : decide (0 < y) = true := decide_eq_true h0
                  have hlen' : j < ys.length := by have := hj.out.2.1; have := hj.out.2.2.1; have := hlt'.out; omega
                  obtain ⟨g, cap, eo, gb, gl, cells, HG⟩ := Kd.R_form HQ.out (by omega)
                  injection eo with ea en ec
                  subst ea
                  subst ec
                  have GB := Aside0.mk gb
                  clear en gb gl HG cells
                  obtain ⟨z, hz⟩ : ∃ z : Int, wrap64 (y - 1) = z := ⟨_, rfl⟩
                  have hzw : (IntKind.i64.wrap (y - 1)) = z := (i64_w _).trans hz
                  have hzj : Aside0 (z = ((j - 1 : Nat) : Int)) := ⟨by have := hj.out.1; have := HN.out; have := hj.out.2.2.1; rw [← hz]; unfold wrap64; omega⟩
                  have pz : 0 ≤ z := by have := hzj.out; omega
                  have qz : z < (xs0.length : Int) := by have := hzj.out; have := hj.out.2.2.1; omega
                  have py : 0 ≤ y := by omega
                  have qy : y < (xs0.length : Int) := by have := hj.out.1; have := hj.out.2.2.1; omega
                  obtain ⟨hx1, hf1⟩ := Kd.R_celln (⟨#[]⟩ : ByteArray) HQ.out z pz qz
                  obtain ⟨hx2, hf2⟩ := Kd.R_celln (⟨#[]⟩ : ByteArray) HQ.out y py qy
                  obtain ⟨sa, hsa⟩ : ∃ s, rdOf (⟨#[]⟩ : ByteArray) ys z = s := ⟨_, rfl⟩
                  obtain ⟨sb, hsb⟩ : ∃ s, rdOf (⟨#[]⟩ : ByteArray) ys y = s := ⟨_, rfl⟩
                  rw [hsa] at hx1
                  rw [hsb] at hx2
                  have ea : Aside0 (atS ys (j - 1) = sa) := ⟨by rw [← hsa, hzj.out]; rfl⟩
                  have eb : Aside0 (atS ys j = sb) := ⟨by rw [← hsb, hj.out.1]; rfl⟩
                  have hne : (sa.toList == sb.toList) = false := by
                    rw [beq_eq_false_iff_ne]
                    intro e
                    have := toList_inj e
                    rw [← ea.out, ← eb.out] at this
                    exact hj.out.2.2.2.2.1 (j - 1) j (by have := hj.out.1; omega) hlen' this
                  have h0' := Aside0.mk h0
                  have hl' := Aside0.mk hlen'
                  replace pz := eq_true pz
                  replace qz := eq_true qz
                  replace py := eq_true py
                  replace qy := eq_true qy
                  clear hsa hsb h0 hlen' hz
                  by_cases hl : ltS sb sa
                  · have hb : Op.bytesLess sa.toList sb.toList = false := by
                      cases h : Op.bytesLess sa.toList sb.toList
                      · rfl
                      · exact (ltS_asym hl h).elim
                    have hl2 := Aside0.mk hl
                    clear hl
                    have HW := fun n => Kd.R_putg (Kd.R_drewN HQ.out n) z sb
                    have hf3 := fun n => (Kd.R_celln (⟨#[]⟩ : ByteArray) (HW n).1 y (of_eq_true py) (of_eq_true qy)).1
                    have hf4 := fun n => (Kd.R_celln (⟨#[]⟩ : ByteArray) (HW n).1 y (of_eq_true py) (of_eq_true qy)).2
                    have HW2 := Aside0.mk (fun n => (Kd.R_putg (HW n).1 y sa).1)
                    clear HW
                    go_wp2
                    repeat (go_quiet (fail); try go_wp2)
                    go_big_region
                    clear hf3 hf4 hx1 hx2 hf1 hf2 hb hne
                    go_wp2
                    go_roundw
                    case rel => exact ⟨_, j - 1, swp ys j, rfl, ⟨hzj.out, by have := hj.out.2.1; omega, by rw [swp_len]; exact hj.out.2.2.1, ordS_step hj.out.2.2.2.1 (by have := hj.out.1; have := h0'.out; omega) hj.out.2.1 (by have := hj.out.2.2.1; have := hlt'.out; omega) (by rw [ea.out, eb.out]; exact hl2.out), swp_apart hj.out.2.2.2.2.1 (by have := hj.out.1; have := h0'.out; omega) hl'.out, fun s => (swp_mem (by have := hj.out.1; have := h0'.out; omega) hl'.out s).trans (hj.out.2.2.2.2.2 s)⟩, ⟨by
                      have h := HW2.out
                      have e1 : z.toNat = j - 1 := by rw [hzj.out]; rfl
                      have e2 : y.toNat = j := by rw [hj.out.1]; rfl
                      have e : (ys.set z.toNat sb).set y.toNat sa = swp ys j := by rw [e1, e2, swp, ea.out, eb.out]
                      rw [e] at h
                      (with_reducible repeat (first | apply Kd.R_alloc | apply Kd.R_drewN | apply Kd.R_drew))
                      exact h _⟩, ⟨below_set (below_set (by repeat (first | (with_reducible first | exact HB.out | apply below_alloc | apply pw_below_drewN | apply below_drew1) | exact HB.out)) GB.out) GB.out⟩⟩
                    case measure =>
                      have := hzj.out
                      have := hj.out.1
                      have := h0'.out
                      simp [intOf]
                      omega
                  · have hb : Op.bytesLess sa.toList sb.toList = true := by
                      by_cases h : ltS sa sb
                      · exact h
                      · exact (hl (ltS_tri h (fun e => by rw [e] at hne; simp at hne))).elim
                    have hE := Aside0.mk (ordS_next (ordS_stop hj.out.2.2.2.1 hj.out.2.1 (by have := hj.out.2.2.1; have := hlt'.out; omega) hj.out.2.2.2.2.1 (Or.inr (by rw [ea.out, eb.out]; exact hl))))
                    clear hl
                    go_wp2
                    repeat (go_quiet (fail); try go_wp2)
                    go_roundw
                    case rel => exact ⟨_, k + 1, ys, rfl, ⟨by have := hk.out.1; have := HN.out; have := hlt'.out; unfold wrap64; omega, by omega, hj.out.2.2.1, hE.out, hj.out.2.2.2.2.1, hj.out.2.2.2.2.2⟩, ⟨by (with_reducible repeat (first | apply Kd.R_alloc | apply Kd.R_drewN | apply Kd.R_drew)); exact HQ.out⟩, ⟨by repeat (first | (with_reducible first | exact HB.out | apply below_alloc | apply pw_below_drewN | apply below_drew1) | exact HB.out)⟩⟩
                    case measure =>
                      have := hk.out.1
                      have := HN.out
                      have := hlt'.out
                      have e : wrap64 (x8 + 1) = x8 + 1 := by unfold wrap64; omega
                      simp [intOf, e]
                      omega
                · have g0 : decide (0 < y) = false := decide_eq_false h0
                  have hE := Aside0.mk (ordS_next (ordS_stop hj.out.2.2.2.1 hj.out.2.1 (by have := hj.out.2.2.1; have := hlt'.out; omega) hj.out.2.2.2.2.1 (Or.inl (by have := hj.out.1; omega))))
                  clear h0
                  go_wp2
                  repeat (go_quiet (fail); try go_wp2)
                  go_roundw
                  case rel => exact ⟨_, k + 1, ys, rfl, ⟨by have := hk.out.1; have := HN.out; have := hlt'.out; unfold wrap64; omega, by omega, hj.out.2.2.1, hE.out, hj.out.2.2.2.2.1, hj.out.2.2.2.2.2⟩, ⟨by (with_reducible repeat (first | apply Kd.R_alloc | apply Kd.R_drewN | apply Kd.R_drew)); exact HQ.out⟩, ⟨by repeat (first | (with_reducible first | exact HB.out | apply below_alloc | apply pw_below_drewN | apply below_drew1) | exact HB.out)⟩⟩
                  case measure =>
                    have := hk.out.1
                    have := HN.out
                    have := hlt'.out
                    have e : wrap64 (x8 + 1) = x8 + 1 := by unfold wrap64; omega
                    simp [intOf, e]
                    omega
            · have cb : decide (x8 < (xs0.length : Int)) = false := decide_eq_false (by have := hk.out.1; omega)
              have HE := Aside0.mk (asc_uniq (ordS_asc hk.out.2.2.2.1 (by have := hk.out.2.2.1; omega)) HA.out (fun s => (hk.out.2.2.2.2.2 s).trans (HM.out s).symm))
              clear hlt hk
              go_wp2
              go_ret
              refine ⟨_, rfl, ?_, HB.out⟩
              have := HQ.out
              rw [← HE.out]
              exact this
set_option maxHeartbeats 4000000 in
set_option maxRecDepth 100000 in
theorem impl_keysOf_calls (b n : Nat) (D : DataW Unit) (r : List ByteArray) (w : World) (hown : w.ownsMap Try.prog 9 (plainElem Try.prog 4) b n D) (hn : n ≤ 100000) (hasc : asc r) (hkd : keyed D (fun s => s ∈ r)) :
    Calls Try.prog 57 #[.map (some b)] w fun e w' => ∃ v0_ : Value, e = .returned (v0_) ∧ Kd.R Kd.string 9 w' w.heap.size (fun _ => True) v0_ r ∧ Below w.heap.size w w' := by
  have HA := Aside0.mk hasc
  have HK := Aside0.mk hkd
  have HL := Aside0.mk hn
  have HB := Aside0.mk (Below.refl w.heap.size w)
  have hown' := Aside0.mk hown
  have hbs := Aside0.mk hown.lt
  clear hasc hkd hn hown
  go_enter Try.func57, Try.ntmps57
  go_wp2_with (first
    | ((with_reducible refine gate_dst (N := 5) rfl ?_); go_loud (refine Kd.R_lit Kd.string _ 9 ?hg (N := 5) ?hd (xs := ([] : List ByteArray)) (inner := []) (ok := fun _ => True) (okp := fun _ => True) ?hr ?hp (fun _ hk => hk) trivial (Below.refl _ _) (Nat.le_refl _) (by simp) ?_; (case hd => rfl); (case hg => rfl); (case hr => first | (go_simp; done) | (go_simp; rfl)); (case hp => exact (Reps.none _ _)); intro v148 w4 ho5 hb hg_ hnew_; have hown4 := hown'.out.kept hg_ (by simp); have HB4 := Aside0.mk (below_step HB.out hb); have HO4 := Aside0.mk (Kd.R_mono (Kd.R_lower (Kd.R_bound ho5) (below_size HB.out)) (ok' := fun k_ => k_ ≠ b ∧ k_ ≠ w4.heap.size) (fun k_ hk_ => ⟨by have := hk_.2.1; have := hbs.out; omega, by have := hk_.2.2.1; omega⟩)); clear ho5 hb hg_ hnew_ HB hown'))
    | (at_range; go_loud (refine wpList_range_own _ rfl _ 74 rfl 9 4 (Go.Maps.string_keyed Try.underlying9) Try.underlying74 _ b _ D rfl hown4 ?_; intro w0 hrg0 hg0 hs0))
    | go_in)
  go_frame
  have HB0 := Aside0.mk (HB4.out.grown hg0 (HB4.out.size) (fun j hj => by cases hj))
  have HO0 := Aside0.mk (Kd.R_step HO4.out (fun k_ _ hlt_ => hg0.block k_ hlt_ (by simp)))
  have hsz0 := Aside0.mk (ownsMap_size hown4)
  have H4 := Aside0.mk (below_size HB4.out)
  clear hown4 hg0 hs0 HB4 HO4
  go_loopw [3] (fun v3 wr2 => ∃ (ss : List (List UInt8)) (left : Lit → Bool) (cnt : Nat), wr2.ranges Try.prog 9 (plainElem Try.prog 4) b w4.heap.size n D left cnt ∧ Aside0 (Collected D left ss) ∧ Aside0 (ss.length + cnt ≤ n ∧ ∀ s ∈ ss.map mkS, s.size ≤ maxLen) ∧ Aside0 (Kd.R Kd.string 9 wr2 w.heap.size (fun k_ => k_ ≠ b ∧ k_ ≠ w4.heap.size) v3 (ss.map mkS)) ∧ Aside0 (Below w.heap.size w wr2))
    (fun _ wr2 => wr2.rangeLeft b w4.heap.size)
  case atStart => exact ⟨[], _, _, hrg0, ⟨Collected.start D⟩, ⟨by have := hsz0.out; simpa using this, by simp⟩, HO0, HB0⟩
  case round =>
    clear HO0 HB0 hrg0 hsz0
    obtain ⟨ss, left, cnt, hrg, hC, hN, HO, HB⟩ := hrel
    go_wp2_with (first
      | (at_next; refine wpList_next_ranges _ rfl _ rfl 9 (Go.Maps.string_keyed Try.underlying9) (plainElem Try.prog 4) (fun x => Value.string (mkS x)) Value.bool (keyOf_str_inv Try.underlying9) (plainElem_bool_inv Try.underlying4) b w4.heap.size n D left cnt rfl hrg ?aD ?aM; (case' aD => (intro hc0 hl0; have HD0 := Aside0.mk hl0; clear hc0 hl0)); (case' aM => (intro x c kl y w1 cnt1 hkey hlk hv hat hrg1 hlt1 hg1 hs1 hen; obtain ⟨x', ex, rfl, hxl⟩ := Maps.keyOf_str Try.underlying9 hkey; obtain rfl := encStr_inj (x := x) ex; have HXL := Aside0.mk hxl; have HC1 := Aside0.mk (hC.out.step hlk hat); have HRG := Aside0.mk hrg1; have HLT := Aside0.mk hlt1; have HB1 := Aside0.mk (HB.out.grown hg1 HB.out.size (fun j hj => by cases hj; exact H4.out)); have HO1 := Aside0.mk (Kd.R_step HO.out (fun k_ hk_ hlt_ => hg1.block k_ hlt_ (fun e => hk_.2 (by injection e)))); have HOR := Aside0.mk hrg; clear hkey hlk hv hat hrg1 hlt1 hg1 hs1 hrg ex hC HO HB hxl)))
      | ((with_reducible refine gate_builtin (b := .append) (xs := #[.tmp 12, .tmp 14]) rfl ?_); at_builtin; go_loud (refine Kd.R_append Kd.string (w0 := w) w.heap.size rfl (.tmp 12) (.tmp 14) 29 9 (.string ⟨#[]⟩) 16 rfl Try.underlying29 info9 rfl (by decide) (by omega) u3 (ss.map mkS) (mkS x) [.string (mkS x)] (fun k_ => k_ ≠ b ∧ k_ ≠ w4.heap.size) (fun _ => False) rfl rfl ?aP (fun _ hk => hk.elim) ?aF ?aO ?aB ?aS ?aL ?_; (case aP => exact rfl); (case aF => exact (fun k_ hk_ => ⟨by have := HRG.out.owns.lt; omega, by have := HRG.out.lt; omega⟩)); (case aO => exact HO1.out); (case aB => exact HB1.out); (case aS => exact below_size HB1.out); (case aL => have := hN.out.1; have := HL.out; simp only [List.length_map]; omega); intro v166 w26 ho hb hg hat; have HRG2 := Aside0.mk (HRG.out.kept hg (fun e => (HO1.out.1 _ e.symm).1 rfl) (fun e => (HO1.out.1 _ e.symm).2 rfl)); have HO2 := Aside0.mk ho; have HB2 := Aside0.mk hb; clear ho hb hg hat HRG HO1 HB1))
      | (go_at_call 81; go_loud (obtain ⟨Ao, co, eo⟩ := Kd.R_slice HO.out; subst eo; have HQ := Kd.R_reads' HO.out; (with_reducible refine (impl_sortedSet_calls Ao co (ss.map mkS) r _ HQ.2.2 HQ.2.1 (by have := hN.out.1; have := HL.out; simp only [List.length_map]; omega) hN.out.2 HA.out (fun s => (collected_mem hC.out HD0.out HK.out s).symm)).mono ?_); rintro e w5 ⟨v9, rfl, ho9, hb9⟩; have HO9 := Aside0.mk (Kd.R_lower ho9 (below_size HB.out)); have HB9 := Aside0.mk (below_step HB.out hb9); clear ho9 hb9 HQ))
      | go_in)
    · refine ⟨⟨ss ++ [x], _, cnt1, HRG2.out, HC1, ⟨by have := hN.out.1; have := HLT.out; simp only [List.length_append, List.length_singleton]; omega, by
        intro s hs
        rw [List.map_append, List.mem_append] at hs
        rcases hs with hs | hs
        · exact hN.out.2 s hs
        · rw [List.map_singleton, List.mem_singleton] at hs
          rw [hs]
          have := HXL.out
          show x.toArray.size ≤ _
          simpa using this⟩, ⟨by rw [List.map_append]; exact HO2.out⟩, HB2⟩, ?_⟩
      rw [HRG2.out.left_eq, HOR.out.left_eq]
      exact HLT.out
    · go_ret
      exact ⟨_, rfl, HO9.out, HB9.out⟩
/-- A word put into its place, once. -/
def insS : List ByteArray → ByteArray → List ByteArray
 | [], s => [s]
 | a :: r, s => if Op.bytesLess a.toList s.toList = true then a :: insS r s else if a.toList = s.toList then a :: r else s :: a :: r
def delS (l : List ByteArray) (s : ByteArray) : List ByteArray := l.filter fun a => decide (a.toList ≠ s.toList)
theorem mem_insS (l : List ByteArray) (s x : ByteArray) : x ∈ insS l s ↔ (x ∈ l ∨ x = s) := by
  induction l with
  | nil => simp [insS]
  | cons a r ih =>
    unfold insS
    by_cases h : Op.bytesLess a.toList s.toList = true
    · rw [if_pos h, List.mem_cons, ih, List.mem_cons, or_assoc]
    · rw [if_neg h]
      by_cases h2 : a.toList = s.toList
      · rw [if_pos h2, toList_inj h2]
        simp only [List.mem_cons]
        constructor
        · exact fun h => Or.inl h
        · rintro (h | h)
          · exact h
          · exact Or.inl h
      · rw [if_neg h2]
        simp only [List.mem_cons]
        constructor
        · rintro (h | h)
          · exact Or.inr h
          · exact Or.inl h
        · rintro (h | h)
          · exact Or.inr h
          · exact Or.inl h
theorem asc_insS {l : List ByteArray} (h : asc l) (s : ByteArray) : asc (insS l s) := by
  induction l with
  | nil => simp [insS, asc]
  | cons a r ih =>
    obtain ⟨h1, h2⟩ := List.pairwise_cons.1 h
    unfold insS
    by_cases c : Op.bytesLess a.toList s.toList = true
    · rw [if_pos c]
      refine List.pairwise_cons.2 ⟨fun x hx => ?_, ih h2⟩
      rcases (mem_insS r s x).1 hx with hx | rfl
      · exact h1 x hx
      · exact c
    · rw [if_neg c]
      by_cases c2 : a.toList = s.toList
      · rw [if_pos c2]
        exact h
      · rw [if_neg c2]
        have c3 : ltS s a := ltS_tri (show ¬ ltS a s from c) (fun e => c2 (by rw [e]))
        refine List.pairwise_cons.2 ⟨fun x hx => ?_, h⟩
        rcases List.mem_cons.1 hx with rfl | hx
        · exact c3
        · exact ltS_trans c3 (h1 x hx)
theorem mem_delS (l : List ByteArray) (s x : ByteArray) : x ∈ delS l s ↔ (x ∈ l ∧ x ≠ s) := by
  unfold delS
  rw [List.mem_filter, decide_eq_true_iff]
  constructor
  · exact fun h => ⟨h.1, fun e => h.2 (by rw [e])⟩
  · exact fun h => ⟨h.1, fun e => h.2 (toList_inj e)⟩
theorem asc_delS {l : List ByteArray} (h : asc l) (s : ByteArray) : asc (delS l s) := h.filter _
def runGo : List ByteArray → List ByteArray → List ByteArray
 | ks, [] => ks
 | ks, a :: r => runGo (insS ks a) r
def actsGo : List ByteArray → List S62 → List ByteArray
 | ks, [] => ks
 | ks, a :: r => actsGo (if a.f0 = 1 then delS ks a.f1 else insS ks a.f1) r
def impl_ApplyActs.f (a0 : List ByteArray) (a1 : List S62) : Option (List ByteArray) := if 2000 < a0.length ∨ 2000 < a1.length then some [] else if (a0.all fun s => decide (s.size ≤ 9223372036854775807)) = true ∧ (a1.all fun s => decide (s.f1.size ≤ 9223372036854775807)) = true then some (actsGo (runGo [] a0) a1) else none
theorem runGo_at (l : List ByteArray) (k : Nat) (h : k < l.length) (ks : List ByteArray) : runGo ks (l.drop k) = runGo (insS ks l[k]) (l.drop (k + 1)) := by rw [List.drop_eq_getElem_cons h, runGo]
theorem actsGo_at (l : List S62) (k : Nat) (h : k < l.length) (ks : List ByteArray) : actsGo ks (l.drop k) = actsGo (if (rd_T62 l (k : Int)).f0 = 1 then delS ks (rd_T62 l (k : Int)).f1 else insS ks (rd_T62 l (k : Int)).f1) (l.drop (k + 1)) := by
  have e : rd_T62 l (k : Int) = l[k] := by
    unfold rd_T62
    simp [List.getD_eq_getElem?_getD, List.getElem?_eq_getElem h]
  rw [List.drop_eq_getElem_cons h, actsGo, e]
theorem rd_T62_mem (l : List S62) (k : Nat) (h : k < l.length) : rd_T62 l (k : Int) ∈ l := by
  have e : rd_T62 l (k : Int) = l[k] := by
    unfold rd_T62
    simp [List.getD_eq_getElem?_getD, List.getElem?_eq_getElem h]
  rw [e]
  exact List.getElem_mem h
set_option maxHeartbeats 4000000 in
set_option maxRecDepth 100000 in
theorem impl_ApplyActs.calls (A0 : Option Addr) (c0 : Nat) (l0 : List ByteArray) (A1 : Option Addr) (c1 : Nat) (l1 : List (S62)) (r : List ByteArray) (w : World) (hr0 : Kd.C Kd.string w A0 l0.length l0) (hc0 : l0.length ≤ c0) (hr1 : Kd.C k62 w A1 l1.length l1) (hc1 : l1.length ≤ c1) (h : impl_ApplyActs.f l0 l1 = some r) :
    Calls Try.prog 22 #[.slice A0 l0.length c0, .slice A1 l1.length c1] w fun e w' => ∃ v0_ : Value, e = .returned (v0_) ∧ Kd.R Kd.string 9 w' w.heap.size (fun _ => True) v0_ r ∧ Below w.heap.size w w' := by
  have HR0 := Aside0.mk hr0
  have HR1 := Aside0.mk hr1
  have HB := Aside0.mk (Below.refl w.heap.size w)
  clear hr0 hr1 hc0 hc1
  unfold impl_ApplyActs.f at h
  have hmm := @run_makeMap Try.prog
  by_cases g0 : 2000 < l0.length
  · rw [if_pos (Or.inl g0)] at h
    obtain rfl := Option.some.inj h
    have g0b : decide ((2000 : Int) < (l0.length : Int)) = true := decide_eq_true (by omega)
    clear h g0
    go_enter Try.func22, Try.ntmps22
    go_wp2
    go_ret
    exact ⟨_, rfl, Kd.R_nil _ _ _ _ _, HB.out⟩
  · by_cases g1 : 2000 < l1.length
    · rw [if_pos (Or.inr g1)] at h
      obtain rfl := Option.some.inj h
      have g0b : decide ((2000 : Int) < (l0.length : Int)) = false := decide_eq_false (by omega)
      have g1b : decide ((2000 : Int) < (l1.length : Int)) = true := decide_eq_true (by omega)
      clear h g0 g1
      go_enter Try.func22, Try.ntmps22
      go_wp2
      go_ret
      exact ⟨_, rfl, Kd.R_nil _ _ _ _ _, HB.out⟩
    · rw [if_neg (by omega)] at h
      split at h
      · rename_i hs
        have HZ0 := Aside0.mk (show ∀ s ∈ l0, s.size ≤ maxLen from fun s hs_ => by have := List.all_eq_true.mp hs.1 s hs_; simpa [maxLen] using this)
        have HZ1 := Aside0.mk (show ∀ s ∈ l1, s.f1.size ≤ maxLen from fun s hs_ => by have := List.all_eq_true.mp hs.2 s hs_; simpa [maxLen] using this)
        have HR := Aside0.mk (Option.some.inj h)
        have HL0 := Aside0.mk (show l0.length ≤ 2000 by omega)
        have HL1 := Aside0.mk (show l1.length ≤ 2000 by omega)
        have g0b : decide ((2000 : Int) < (l0.length : Int)) = false := decide_eq_false (by omega)
        have g1b : decide ((2000 : Int) < (l1.length : Int)) = false := decide_eq_false (by omega)
        clear h g0 g1 hs
        go_enter Try.func22, Try.ntmps22
        go_wp2
        go_loopw [21] (fun i wr => ∃ (x : Int) (k : Nat) (D : DataW Unit) (ks : List ByteArray), i = .int .i64 x ∧ Aside0 (x = (k : Int) ∧ k ≤ l0.length) ∧ wr.ownsMap Try.prog 9 (plainElem Try.prog 4) w.heap.size k D ∧ Aside0 (asc ks ∧ keyed D (fun s => s ∈ ks) ∧ actsGo (runGo ks (l0.drop k)) l1 = r) ∧ Aside0 (Below w.heap.size w wr))
          (fun i _ => l0.length - (intOf i).toNat)
        case atStart => exact ⟨0, 0, .map [], [], rfl, ⟨rfl, Nat.zero_le _⟩, World.ownsMap_made _ _ _ _, ⟨by simp [asc], by simpa using keyed_nil, HR.out⟩, ⟨(Below.refl _ _).alloc (Nat.le_refl _) _⟩⟩
        case round =>
          clear HR HB
          obtain ⟨x, k, D, ks, rfl, hk, hown, hkd, hnx⟩ := hrel
          by_cases hlt : k < l0.length
          · have cb : decide (x < (l0.length : Int)) = true := decide_eq_true (by have := hk.out.1; omega)
            have p : 0 ≤ x := by have := hk.out.1; omega
            have q : x < (l0.length : Int) := by have := hk.out.1; omega
            obtain ⟨s, hs⟩ : ∃ s, rdOf ByteArray.empty l0 x = s := ⟨_, rfl⟩
            obtain ⟨ad, e, hx⟩ := Kd.at_string (Kd.C_below HR0.out hnx.out) x p q
            cases e
            rw [hs] at hx
            replace p := eq_true p
            replace q := eq_true q
            have hs' : l0[k] = s := by
              rw [← hs, atS_rd, ← atS_get l0 k hlt]
              have := hk.out.1
              subst this
              rfl
            have hss : s.size ≤ maxLen := by
              rw [← hs']
              exact HZ0.out _ (List.getElem_mem hlt)
            have hkey : keyOf Try.prog 9 (.string s) = some (skey s) := Go.WideMaps.keyOf_string_mk Try.underlying9 hss
            have hn : k < maxLen := by have := HL0.out; unfold maxLen; omega
            have hkd' : Aside0 (asc (insS ks s) ∧ keyed (D.put (skey s) (.lit (.bool true))) (fun x => x ∈ insS ks s) ∧ actsGo (runGo (insS ks s) (l0.drop (k + 1))) l1 = r) := ⟨asc_insS hkd.out.1 s, fun y => (keyed_put hkd.out.2.1 hown.isMap s (.lit (.bool true)) y).trans (mem_insS ks s y).symm, by rw [← hkd.out.2.2, runGo_at l0 k hlt, hs']⟩
            have hlt' := Aside0.mk hlt
            clear hs hs' hss hlt hkd
            go_wp2_with (first
              | (at_mapUpdate; go_loud (refine wpList_mapUpdate_own _ rfl _ _ _ 74 rfl 9 4 (Go.Maps.string_keyed Try.underlying9) Try.underlying74 _ w.heap.size k _ rfl hown hn _ _ _ rfl rfl hkey _ [] (plainElem_bool Try.underlying4 true) ?_))
              | go_in)
            intro w1 hown1 hgrow1
            have R2 := Aside0.mk (hnx.out.grown hgrow1 hnx.out.size (fun j hj => by cases hj; exact Nat.le_refl _))
            clear hgrow1 hown hkey hnx
            go_wp2
            go_roundw
            case rel => exact ⟨_, k + 1, _, _, rfl, ⟨by have := hk.out; have := HL0.out; unfold wrap64; omega, hlt'.out⟩, hown1, hkd', R2⟩
            case measure =>
              have := hk.out
              have := HL0.out
              have := hlt'.out
              have e : wrap64 (x + 1) = x + 1 := by unfold wrap64; omega
              simp [intOf, e]
              omega
          · have cb : decide (x < (l0.length : Int)) = false := decide_eq_false (by have := hk.out; omega)
            have e : k = l0.length := by have := hk.out.2; omega
            subst e
            have hkd' : Aside0 (asc ks ∧ keyed D (fun s => s ∈ ks) ∧ actsGo ks l1 = r) := ⟨hkd.out.1, hkd.out.2.1, by have := hkd.out.2.2; rwa [List.drop_length, runGo] at this⟩
            have HB := hnx
            clear hlt hkd hnx
            go_wp2
            go_loopw [30] (fun i wr => ∃ (x : Int) (k : Nat) (D : DataW Unit) (ks : List ByteArray), i = .int .i64 x ∧ Aside0 (x = (k : Int) ∧ k ≤ l1.length) ∧ wr.ownsMap Try.prog 9 (plainElem Try.prog 4) w.heap.size (l0.length + k) D ∧ Aside0 (asc ks ∧ keyed D (fun s => s ∈ ks) ∧ actsGo ks (l1.drop k) = r) ∧ Aside0 (Below w.heap.size w wr))
              (fun i _ => l1.length - (intOf i).toNat)
            case atStart => exact ⟨0, 0, D, ks, rfl, ⟨rfl, Nat.zero_le _⟩, hown, ⟨hkd'.out.1, hkd'.out.2.1, hkd'.out.2.2⟩, HB⟩
            case round =>
              clear hown hkd' HB hk cb
              obtain ⟨x2, k2, D2, ks2, rfl, hk, hown, hkd, hnx⟩ := hrel
              by_cases hlt : k2 < l1.length
              · have cb : decide (x2 < (l1.length : Int)) = true := decide_eq_true (by have := hk.out.1; omega)
                have p : 0 ≤ x2 := by have := hk.out.1; omega
                have q : x2 < (l1.length : Int) := by have := hk.out.1; omega
                obtain ⟨kd, hkd0⟩ : ∃ s, (rd_T62 l1 x2).f0 = s := ⟨_, rfl⟩
                obtain ⟨s, hs⟩ : ∃ s, (rd_T62 l1 x2).f1 = s := ⟨_, rfl⟩
                obtain ⟨ad, e, hx0, hx1⟩ := at_T62 (Kd.C_below HR1.out hnx.out) x2 p q
                cases e
                rw [hkd0] at hx0
                rw [hs] at hx1
                replace p := eq_true p
                replace q := eq_true q
                have hs0 : (rd_T62 l1 (k2 : Int)).f0 = kd := by rw [← hk.out.1]; exact hkd0
                have hs1 : (rd_T62 l1 (k2 : Int)).f1 = s := by rw [← hk.out.1]; exact hs
                have hss : s.size ≤ maxLen := by
                  rw [← hs1]
                  exact HZ1.out _ (rd_T62_mem l1 k2 hlt)
                have hkey : keyOf Try.prog 9 (.string s) = some (skey s) := Go.WideMaps.keyOf_string_mk Try.underlying9 hss
                have hn : l0.length + k2 < maxLen := by have := HL0.out; have := HL1.out; unfold maxLen; omega
                have G := hkd.out.2.2
                rw [actsGo_at l1 k2 hlt, hs0, hs1] at G
                have hlt' := Aside0.mk hlt
                by_cases hkind : kd = 1
                · rw [if_pos hkind] at G
                  have kb : (kd == 1) = true := beq_iff_eq.mpr hkind
                  have hkd' : Aside0 (asc (delS ks2 s) ∧ keyed (D2.del (skey s)) (fun x => x ∈ delS ks2 s) ∧ actsGo (delS ks2 s) (l1.drop (k2 + 1)) = r) := ⟨asc_delS hkd.out.1 s, fun y => (keyed_del hkd.out.2.1 s y).trans (mem_delS ks2 s y).symm, G⟩
                  clear hkd0 hs hs0 hs1 hss hlt hkd G hkind
                  go_wp2_with (first
                    | (at_delete; go_loud (refine wpList_delete_own _ rfl _ _ 74 9 rfl 4 (Go.Maps.string_keyed Try.underlying9) Try.underlying74 _ w.heap.size _ _ rfl (hown.alloc _) _ _ rfl hkey ?_))
                    | go_in)
                  intro w1 hown1 hturn1
                  have hgrow1 := hturn1.grown
                  have R2 := Aside0.mk (((hnx.out.alloc (hnx.out.size) (.cells #[.int .i64 kd, .string s] 62))).grown hgrow1 (below_size (hnx.out.alloc (hnx.out.size) (.cells #[.int .i64 kd, .string s] 62))) (fun j hj => by cases hj; exact Nat.le_refl _))
                  clear hgrow1 hown hkey hnx
                  go_wp2
                  go_roundw
                  case rel => exact ⟨_, k2 + 1, _, _, rfl, ⟨by have := hk.out; have := HL1.out; unfold wrap64; omega, hlt'.out⟩, hown1.mono (by omega), hkd', R2⟩
                  case measure =>
                    have := hk.out
                    have := HL1.out
                    have := hlt'.out
                    have e : wrap64 (x2 + 1) = x2 + 1 := by unfold wrap64; omega
                    simp [intOf, e]
                    omega
                · rw [if_neg hkind] at G
                  have kb : (kd == 1) = false := beq_eq_false_iff_ne.mpr hkind
                  have hkd' : Aside0 (asc (insS ks2 s) ∧ keyed (D2.put (skey s) (.lit (.bool true))) (fun x => x ∈ insS ks2 s) ∧ actsGo (insS ks2 s) (l1.drop (k2 + 1)) = r) := ⟨asc_insS hkd.out.1 s, fun y => (keyed_put hkd.out.2.1 hown.isMap s (.lit (.bool true)) y).trans (mem_insS ks2 s y).symm, G⟩
                  clear hkd0 hs hs0 hs1 hss hlt hkd G hkind
                  go_wp2_with (first
                    | (at_mapUpdate; go_loud (refine wpList_mapUpdate_own _ rfl _ _ _ 74 rfl 9 4 (Go.Maps.string_keyed Try.underlying9) Try.underlying74 _ w.heap.size _ _ rfl (hown.alloc _) hn _ _ _ rfl rfl hkey _ [] (plainElem_bool Try.underlying4 true) ?_))
                    | go_in)
                  intro w1 hown1 hgrow1
                  have R2 := Aside0.mk (((hnx.out.alloc (hnx.out.size) (.cells #[.int .i64 kd, .string s] 62))).grown hgrow1 (below_size (hnx.out.alloc (hnx.out.size) (.cells #[.int .i64 kd, .string s] 62))) (fun j hj => by cases hj; exact Nat.le_refl _))
                  clear hgrow1 hown hkey hnx
                  go_wp2
                  go_roundw
                  case rel => exact ⟨_, k2 + 1, _, _, rfl, ⟨by have := hk.out; have := HL1.out; unfold wrap64; omega, hlt'.out⟩, hown1, hkd', R2⟩
                  case measure =>
                    have := hk.out
                    have := HL1.out
                    have := hlt'.out
                    have e : wrap64 (x2 + 1) = x2 + 1 := by unfold wrap64; omega
                    simp [intOf, e]
                    omega
              · have cb : decide (x2 < (l1.length : Int)) = false := decide_eq_false (by have := hk.out; omega)
                have e : k2 = l1.length := by have := hk.out.2; omega
                subst e
                have hkd' : Aside0 (asc ks2 ∧ keyed D2 (fun s => s ∈ ks2) ∧ ks2 = r) := ⟨hkd.out.1, hkd.out.2.1, by have := hkd.out.2.2; rwa [List.drop_length, actsGo] at this⟩
                have HB := hnx
                have hown' := Aside0.mk hown
                clear hlt hkd hnx hown
                go_wp2_with (first
                  | (go_at_call 57; go_loud ((with_reducible refine (impl_keysOf_calls w.heap.size (l0.length + l1.length) D2 r _ hown'.out (by have := HL0.out; have := HL1.out; omega) (hkd'.out.2.2 ▸ hkd'.out.1) (hkd'.out.2.2 ▸ hkd'.out.2.1)).mono ?_); rintro e w5 ⟨v9, rfl, ho9, hb9⟩; have HO9 := Aside0.mk (Kd.R_lower ho9 (below_size HB.out)); have HB9 := Aside0.mk (below_step HB.out hb9); clear ho9 hb9))
                  | go_in)
                go_ret
                exact ⟨_, rfl, HO9.out, HB9.out⟩
      · exact absurd h (by simp)

/-! ### laws_eqStringS: function 23 -/
def laws_eqStringS.l0 : Nat → List ByteArray → List ByteArray → Int → Option (Bool)
  | 0, _, _, _ => none
  | k + 1, x0, x1, x5 => if x5 < (x0.length : Int) then (if 0 ≤ x5 then (if x5 < (x1.length : Int) then (if (rdOf ByteArray.empty x0 x5).toList = (rdOf ByteArray.empty x1 x5).toList then (laws_eqStringS.l0 k x0 x1 (wrap64 (x5 + 1))) else (some false)) else (none)) else (none)) else (some true)
def laws_eqStringS.f (k : Nat) (l0 : List ByteArray) (l1 : List ByteArray) : Option (Bool) := if (l0.length : Int) = (l1.length : Int) then (laws_eqStringS.l0 k l0 l1 0) else (some false)
theorem laws_eqStringS.mono_l : ∀ k, (∀ y0 y1 y2, LeO (laws_eqStringS.l0 k y0 y1 y2) (laws_eqStringS.l0 (k + 1) y0 y1 y2))
  | 0 => fun _ _ _ r h => by simp [laws_eqStringS.l0] at h
  | k + 1 => by
    have ih0 := laws_eqStringS.mono_l k
    · intro y0 y1 y2
      unfold laws_eqStringS.l0
      repeat' first
      | (with_reducible exact ih0 _ _ _)
      | (with_reducible exact LeO.refl _)
      | (with_reducible exact LeO.none _)
      | (with_reducible refine LeO.ite ?_ ?_)
      | (with_reducible refine LeO.bind ?_ (fun _ => ?_))
      | exact ih0 _ _ _
      | exact LeO.none _
      | refine LeO.ite ?_ ?_
      | refine LeO.bind ?_ (fun _ => ?_)
theorem laws_eqStringS.mono : ∀ a0 a1 k, LeO (laws_eqStringS.f k a0 a1) (laws_eqStringS.f (k + 1) a0 a1) := by
  intro a0 a1 k
  have ih0 := laws_eqStringS.mono_l k
  unfold laws_eqStringS.f
  repeat' first
      | (with_reducible exact ih0 _ _ _)
      | (with_reducible exact LeO.refl _)
      | (with_reducible exact LeO.none _)
      | (with_reducible refine LeO.ite ?_ ?_)
      | (with_reducible refine LeO.bind ?_ (fun _ => ?_))
      | exact ih0 _ _ _
      | exact LeO.none _
      | refine LeO.ite ?_ ?_
      | refine LeO.bind ?_ (fun _ => ?_)
set_option maxHeartbeats 8000000 in
set_option maxRecDepth 100000 in
theorem laws_eqStringS.calls (k : Nat) (A0 : Option Addr) (c0 : Nat) (l0 : List ByteArray) (A1 : Option Addr) (c1 : Nat) (l1 : List ByteArray) (r : Bool) (w : World) (hr0 : Kd.C Kd.string w A0 l0.length l0) (hc0 : l0.length ≤ c0) (hr1 : Kd.C Kd.string w A1 l1.length l1) (hc1 : l1.length ≤ c1) (h : laws_eqStringS.f k l0 l1 = some r) :
    Calls Try.prog 23 #[.slice A0 l0.length c0, .slice A1 l1.length c1] w fun e w' => e = .returned (.bool r) ∧ Drawn0 w w' := by
  have HR0 := Aside0.mk hr0
  have HC0 := Aside0.mk hc0
  clear hr0 hc0
  have HR1 := Aside0.mk hr1
  have HC1 := Aside0.mk hc1
  clear hr1 hc1
  have H : (if (l0.length : Int) = (l1.length : Int) then (laws_eqStringS.l0 k l0 l1 0) else (some false)) = some r := h
  clear h
  by_cases c3 : (l0.length : Int) = (l1.length : Int)
  · rw [if_pos c3] at H
    have c3b0 : ((l0.length : Int) == (l1.length : Int)) = true := beq_iff_eq.mpr c3
    have c3b1 : ((l0.length : Int) != (l1.length : Int)) = false := bne_eq_false_iff_eq.mpr c3
    have c3b2 : (l0.length == l1.length) = true := by first | simpa using c3 | (simp at c3 ⊢; omega)
    clear c3
    have H' := Aside0.mk H
    clear H
    go_enter Try.func23, Try.ntmps23
    go_wp2
    repeat (go_quiet (fail); try go_wp2)
    go_loopg [5] k (fun kq v5 w' => ∃ (x5_1 : Int), v5 = .int .i64 x5_1 ∧ Aside0 (laws_eqStringS.l0 kq l0 l1 x5_1 = some r) ∧ Aside0 (kq ≤ k) ∧ Drawn0 w w')
    case atStart => exact ⟨(0), (by first | rfl | (simp; done) | (simp [*]; done)), H', ⟨Nat.le_refl _⟩, by repeat (first | exact Drawn0.refl _ | apply Drawn0.step)⟩
    case round =>
      clear H'
      try clear c1
      try clear c2
      try clear p2
      try clear c3
      try clear c3b0
      try clear c3b1
      try clear c3b2
      obtain ⟨x5_1, rfl, HA, HK1, ⟨m1, rfl⟩⟩ := hrel
      cases gk with
      | zero => exact absurd HA.out (by simp [laws_eqStringS.l0])
      | succ k1 =>
        have H := HA.out
        clear HA
        simp only [laws_eqStringS.l0] at H
        by_cases c4 : x5_1 < (l0.length : Int)
        · rw [if_pos c4] at H
          have c4b0 : decide (x5_1 < (l0.length : Int)) = true := decide_eq_true c4
          clear c4
          by_cases c5 : 0 ≤ x5_1
          · rw [if_pos c5] at H
            have c5b0 : decide (0 ≤ x5_1) = true := decide_eq_true c5
            clear c5
            by_cases c6 : x5_1 < (l1.length : Int)
            · rw [if_pos c6] at H
              have c6b0 : decide (x5_1 < (l1.length : Int)) = true := decide_eq_true c6
              clear c6
              by_cases c7 : (rdOf ByteArray.empty l0 x5_1).toList = (rdOf ByteArray.empty l1 x5_1).toList
              · rw [if_pos c7] at H
                have c7b0 : ((rdOf ByteArray.empty l0 x5_1).toList == (rdOf ByteArray.empty l1 x5_1).toList) = true := beq_iff_eq.mpr c7
                have c7b1 : ((rdOf ByteArray.empty l0 x5_1).toList != (rdOf ByteArray.empty l1 x5_1).toList) = false := bne_eq_false_iff_eq.mpr c7
                clear c7
                have H' := Aside0.mk H
                clear H
                have p183 : 0 ≤ (x5_1 : Int) := of_decide_eq_true (by first | (with_reducible assumption) | assumption)
                have q183 : x5_1 < (l0.length : Int) := of_decide_eq_true (by first | (with_reducible assumption) | assumption)
                obtain ⟨ad183, e183, hx183_0⟩ := Kd.at_string HR0.out x5_1 p183 q183
                cases e183
                replace p183 := eq_true p183
                replace q183 := eq_true q183
                have p184 : 0 ≤ (x5_1 : Int) := of_decide_eq_true (by first | (with_reducible assumption) | assumption)
                have q184 : x5_1 < (l1.length : Int) := of_decide_eq_true (by first | (with_reducible assumption) | assumption)
                obtain ⟨ad184, e184, hx184_0⟩ := Kd.at_string HR1.out x5_1 p184 q184
                cases e184
                replace p184 := eq_true p184
                replace q184 := eq_true q184
                go_wp2
                repeat (go_quiet (fail); try go_wp2)
                go_roundg k1
                case measure => have := HK1.out; omega
                case rel => exact ⟨(wrap64 (x5_1 + 1)), (by first | rfl | (simp; done) | (simp [*]; done)), H', ⟨by have := HK1.out; omega⟩, by repeat (first | exact Drawn0.refl _ | apply Drawn0.step)⟩
              · rw [if_neg c7] at H
                have c7b0 : ((rdOf ByteArray.empty l0 x5_1).toList == (rdOf ByteArray.empty l1 x5_1).toList) = false := beq_eq_false_iff_ne.mpr c7
                have c7b1 : ((rdOf ByteArray.empty l0 x5_1).toList != (rdOf ByteArray.empty l1 x5_1).toList) = true := bne_iff_ne.mpr c7
                obtain rfl := Option.some.inj H
                have p183 : 0 ≤ (x5_1 : Int) := of_decide_eq_true (by first | (with_reducible assumption) | assumption)
                have q183 : x5_1 < (l0.length : Int) := of_decide_eq_true (by first | (with_reducible assumption) | assumption)
                obtain ⟨ad183, e183, hx183_0⟩ := Kd.at_string HR0.out x5_1 p183 q183
                cases e183
                replace p183 := eq_true p183
                replace q183 := eq_true q183
                have p184 : 0 ≤ (x5_1 : Int) := of_decide_eq_true (by first | (with_reducible assumption) | assumption)
                have q184 : x5_1 < (l1.length : Int) := of_decide_eq_true (by first | (with_reducible assumption) | assumption)
                obtain ⟨ad184, e184, hx184_0⟩ := Kd.at_string HR1.out x5_1 p184 q184
                cases e184
                replace p184 := eq_true p184
                replace q184 := eq_true q184
                go_wp2
                repeat (go_quiet (fail); try go_wp2)
                go_ret
                exact ⟨by first | rfl | (simp; done) | (simp [*]; done), by repeat (first | exact Drawn0.refl _ | apply Drawn0.step)⟩
            · rw [if_neg c6] at H
              exact absurd H (by simp)
          · rw [if_neg c5] at H
            exact absurd H (by simp)
        · rw [if_neg c4] at H
          have c4b0 : decide (x5_1 < (l0.length : Int)) = false := decide_eq_false c4
          clear c4
          obtain rfl := Option.some.inj H
          go_wp2
          repeat (go_quiet (fail); try go_wp2)
          go_ret
          exact ⟨by first | rfl | (simp; done) | (simp [*]; done), by repeat (first | exact Drawn0.refl _ | apply Drawn0.step)⟩
  · rw [if_neg c3] at H
    have c3b0 : ((l0.length : Int) == (l1.length : Int)) = false := beq_eq_false_iff_ne.mpr c3
    have c3b1 : ((l0.length : Int) != (l1.length : Int)) = true := bne_iff_ne.mpr c3
    have c3b2 : (l0.length == l1.length) = false := by first | simpa using c3 | (simp at c3 ⊢; omega)
    obtain rfl := Option.some.inj H
    go_enter Try.func23, Try.ntmps23
    go_wp2
    repeat (go_quiet (fail); try go_wp2)
    go_ret
    exact ⟨by first | rfl | (simp; done) | (simp [*]; done), by repeat (first | exact Drawn0.refl _ | apply Drawn0.step)⟩

/-! ### laws_eqAct: function 58 -/
def laws_eqAct.f (a0_0 : Int) (a0_1 : ByteArray) (a1_0 : Int) (a1_1 : ByteArray) : Option (Bool) := if a0_0 = a1_0 then (if a0_1.toList = a1_1.toList then (some true) else (some false)) else (some false)
set_option maxHeartbeats 8000000 in
set_option maxRecDepth 100000 in
theorem laws_eqAct.calls (a0_0 : Int) (a0_1 : ByteArray) (a1_0 : Int) (a1_1 : ByteArray) (r : Bool) (w : World) (h : laws_eqAct.f a0_0 a0_1 a1_0 a1_1 = some r) :
    Calls Try.prog 58 #[.agg #[.int .i64 a0_0, .string a0_1], .agg #[.int .i64 a1_0, .string a1_1]] w fun e w' => e = .returned (.bool r) ∧ Below w.heap.size w w' := by
  have hu62 := Try.underlying62
  have HB := Aside0.mk (Below.refl w.heap.size w)
  have H : (if a0_0 = a1_0 then (if a0_1.toList = a1_1.toList then (some true) else (some false)) else (some false)) = some r := h
  clear h
  by_cases c3 : a0_0 = a1_0
  · rw [if_pos c3] at H
    have c3b0 : (a0_0 == a1_0) = true := beq_iff_eq.mpr c3
    have c3b1 : (a0_0 != a1_0) = false := bne_eq_false_iff_eq.mpr c3
    clear c3
    by_cases c4 : a0_1.toList = a1_1.toList
    · rw [if_pos c4] at H
      have c4b0 : (a0_1.toList == a1_1.toList) = true := beq_iff_eq.mpr c4
      have c4b1 : (a0_1.toList != a1_1.toList) = false := bne_eq_false_iff_eq.mpr c4
      clear c4
      obtain rfl := Option.some.inj H
      go_enter Try.func58, Try.ntmps58
      go_wp2_with (first | ((with_reducible refine gate_dst (N := 2) rfl ?_); refine box_event ?hg (N := 2) ?hd (cs := #[.int .i64 a0_0, .string a0_1]) (t := 62) ?hr ?_; (case hd => rfl); (case hg => rfl); (case hr => first | (go_simp; done) | (go_simp; rfl)); intro gb185 hg w5 hbox hb; have n0_ := Aside0.mk (below_step (by repeat (first | (with_reducible first | exact HB.out | apply below_alloc | apply pw_below_drewN | apply below_drew1) | exact HB.out)) hb); have n1_ := Aside0.mk (hbox); have n2_ := Aside0.mk ((by rw [hg]; exact (below_size (by repeat (first | (with_reducible first | exact HB.out | apply below_alloc | apply pw_below_drewN | apply below_drew1) | exact HB.out))) : w.heap.size ≤ gb185)); have n3_ := Aside0.mk ((by rw [hg]; exact (below_size (by repeat (first | (with_reducible first | exact HB.out | apply below_alloc | apply pw_below_drewN | apply below_drew1) | exact HB.out))) : w.heap.size ≤ gb185)); clear HB; have HB := n0_; have BK185 := n1_; have GW185 := n2_; have GE185 := n3_; clear n0_ n1_ n2_ n3_; clear hb hbox hg) | ((with_reducible refine gate_dst (N := 3) rfl ?_); refine box_event ?hg (N := 3) ?hd (cs := #[.int .i64 a1_0, .string a1_1]) (t := 62) ?hr ?_; (case hd => rfl); (case hg => rfl); (case hr => first | (go_simp; done) | (go_simp; rfl)); intro gb186 hg w6 hbox hb; have n0_ := Aside0.mk (blk_below (g := gb185) (o := .cells #[.int .i64 a0_0, .string a0_1] 62 (0, 0)) (by (with_reducible repeat (first | refine blk_drewN ?_ _ | refine blk_drew ?_ | refine blk_alloc ?_ _)); exact BK185.out) hb); have n1_ := Aside0.mk (below_step (by repeat (first | (with_reducible first | exact HB.out | apply below_alloc | apply pw_below_drewN | apply below_drew1 | refine below_set ?_ GE185.out) | exact HB.out)) hb); have n2_ := Aside0.mk (hbox); have n3_ := Aside0.mk ((by rw [hg]; exact (below_size (by repeat (first | (with_reducible first | exact HB.out | apply below_alloc | apply pw_below_drewN | apply below_drew1 | refine below_set ?_ GE185.out) | exact HB.out))) : w.heap.size ≤ gb186)); have n4_ := Aside0.mk ((by rw [hg]; exact (below_size (by repeat (first | (with_reducible first | exact HB.out | apply below_alloc | apply pw_below_drewN | apply below_drew1 | refine below_set ?_ GE185.out) | exact HB.out))) : w.heap.size ≤ gb186)); have n5_ := Aside0.mk ((by rw [hg]; exact Nat.ne_of_lt (blk_lt (g := gb185) (o := .cells #[.int .i64 a0_0, .string a0_1] 62 (0, 0)) (by (with_reducible repeat (first | refine blk_drewN ?_ _ | refine blk_drew ?_ | refine blk_alloc ?_ _)); exact BK185.out)) : gb185 ≠ gb186)); have n6_ := Aside0.mk ((by rw [hg]; exact Nat.ne_of_gt (blk_lt (g := gb185) (o := .cells #[.int .i64 a0_0, .string a0_1] 62 (0, 0)) (by (with_reducible repeat (first | refine blk_drewN ?_ _ | refine blk_drew ?_ | refine blk_alloc ?_ _)); exact BK185.out)) : gb186 ≠ gb185)); clear BK185; clear HB; have BK185 := n0_; have HB := n1_; have BK186 := n2_; have GW186 := n3_; have GE186 := n4_; have NB185_186 := n5_; have NB186_185 := n6_; clear n0_ n1_ n2_ n3_ n4_ n5_ n6_; clear hb hbox hg; have hnb7 := NB185_186.out; have hnc7 := NB186_185.out; have hcz8_0 : w6.cell? ⟨gb185, 0, none⟩ = some (.int .i64 a0_0) := (blk_cell BK185.out 0).trans rfl; have hcz8_1 : w6.cell? ⟨gb185, 1, none⟩ = some (.string a0_1) := (blk_cell BK185.out 1).trans rfl; have hfz8_0 := blk_frozen BK185.out 0; have hfz8_1 := blk_frozen BK185.out 1; have hcz9_0 : w6.cell? ⟨gb186, 0, none⟩ = some (.int .i64 a1_0) := (blk_cell BK186.out 0).trans rfl; have hcz9_1 : w6.cell? ⟨gb186, 1, none⟩ = some (.string a1_1) := (blk_cell BK186.out 1).trans rfl; have hfz9_0 := blk_frozen BK186.out 0; have hfz9_1 := blk_frozen BK186.out 1))
      go_ret
      exact ⟨by first | rfl | (simp [errW_none, errW_some] <;> rfl) | (simp [*, errW_none, errW_some] <;> rfl), by repeat (first | (with_reducible first | exact HB.out | apply below_alloc | apply pw_below_drewN | apply below_drew1 | refine below_set ?_ GE185.out | refine below_set ?_ GE186.out) | exact HB.out)⟩
    · rw [if_neg c4] at H
      have c4b0 : (a0_1.toList == a1_1.toList) = false := beq_eq_false_iff_ne.mpr c4
      have c4b1 : (a0_1.toList != a1_1.toList) = true := bne_iff_ne.mpr c4
      obtain rfl := Option.some.inj H
      go_enter Try.func58, Try.ntmps58
      go_wp2_with (first | ((with_reducible refine gate_dst (N := 2) rfl ?_); refine box_event ?hg (N := 2) ?hd (cs := #[.int .i64 a0_0, .string a0_1]) (t := 62) ?hr ?_; (case hd => rfl); (case hg => rfl); (case hr => first | (go_simp; done) | (go_simp; rfl)); intro gb185 hg w10 hbox hb; have n0_ := Aside0.mk (below_step (by repeat (first | (with_reducible first | exact HB.out | apply below_alloc | apply pw_below_drewN | apply below_drew1) | exact HB.out)) hb); have n1_ := Aside0.mk (hbox); have n2_ := Aside0.mk ((by rw [hg]; exact (below_size (by repeat (first | (with_reducible first | exact HB.out | apply below_alloc | apply pw_below_drewN | apply below_drew1) | exact HB.out))) : w.heap.size ≤ gb185)); have n3_ := Aside0.mk ((by rw [hg]; exact (below_size (by repeat (first | (with_reducible first | exact HB.out | apply below_alloc | apply pw_below_drewN | apply below_drew1) | exact HB.out))) : w.heap.size ≤ gb185)); clear HB; have HB := n0_; have BK185 := n1_; have GW185 := n2_; have GE185 := n3_; clear n0_ n1_ n2_ n3_; clear hb hbox hg) | ((with_reducible refine gate_dst (N := 3) rfl ?_); refine box_event ?hg (N := 3) ?hd (cs := #[.int .i64 a1_0, .string a1_1]) (t := 62) ?hr ?_; (case hd => rfl); (case hg => rfl); (case hr => first | (go_simp; done) | (go_simp; rfl)); intro gb186 hg w11 hbox hb; have n0_ := Aside0.mk (blk_below (g := gb185) (o := .cells #[.int .i64 a0_0, .string a0_1] 62 (0, 0)) (by (with_reducible repeat (first | refine blk_drewN ?_ _ | refine blk_drew ?_ | refine blk_alloc ?_ _)); exact BK185.out) hb); have n1_ := Aside0.mk (below_step (by repeat (first | (with_reducible first | exact HB.out | apply below_alloc | apply pw_below_drewN | apply below_drew1 | refine below_set ?_ GE185.out) | exact HB.out)) hb); have n2_ := Aside0.mk (hbox); have n3_ := Aside0.mk ((by rw [hg]; exact (below_size (by repeat (first | (with_reducible first | exact HB.out | apply below_alloc | apply pw_below_drewN | apply below_drew1 | refine below_set ?_ GE185.out) | exact HB.out))) : w.heap.size ≤ gb186)); have n4_ := Aside0.mk ((by rw [hg]; exact (below_size (by repeat (first | (with_reducible first | exact HB.out | apply below_alloc | apply pw_below_drewN | apply below_drew1 | refine below_set ?_ GE185.out) | exact HB.out))) : w.heap.size ≤ gb186)); have n5_ := Aside0.mk ((by rw [hg]; exact Nat.ne_of_lt (blk_lt (g := gb185) (o := .cells #[.int .i64 a0_0, .string a0_1] 62 (0, 0)) (by (with_reducible repeat (first | refine blk_drewN ?_ _ | refine blk_drew ?_ | refine blk_alloc ?_ _)); exact BK185.out)) : gb185 ≠ gb186)); have n6_ := Aside0.mk ((by rw [hg]; exact Nat.ne_of_gt (blk_lt (g := gb185) (o := .cells #[.int .i64 a0_0, .string a0_1] 62 (0, 0)) (by (with_reducible repeat (first | refine blk_drewN ?_ _ | refine blk_drew ?_ | refine blk_alloc ?_ _)); exact BK185.out)) : gb186 ≠ gb185)); clear BK185; clear HB; have BK185 := n0_; have HB := n1_; have BK186 := n2_; have GW186 := n3_; have GE186 := n4_; have NB185_186 := n5_; have NB186_185 := n6_; clear n0_ n1_ n2_ n3_ n4_ n5_ n6_; clear hb hbox hg; have hnb12 := NB185_186.out; have hnc12 := NB186_185.out; have hcz13_0 : w11.cell? ⟨gb185, 0, none⟩ = some (.int .i64 a0_0) := (blk_cell BK185.out 0).trans rfl; have hcz13_1 : w11.cell? ⟨gb185, 1, none⟩ = some (.string a0_1) := (blk_cell BK185.out 1).trans rfl; have hfz13_0 := blk_frozen BK185.out 0; have hfz13_1 := blk_frozen BK185.out 1; have hcz14_0 : w11.cell? ⟨gb186, 0, none⟩ = some (.int .i64 a1_0) := (blk_cell BK186.out 0).trans rfl; have hcz14_1 : w11.cell? ⟨gb186, 1, none⟩ = some (.string a1_1) := (blk_cell BK186.out 1).trans rfl; have hfz14_0 := blk_frozen BK186.out 0; have hfz14_1 := blk_frozen BK186.out 1))
      go_ret
      exact ⟨by first | rfl | (simp [errW_none, errW_some] <;> rfl) | (simp [*, errW_none, errW_some] <;> rfl), by repeat (first | (with_reducible first | exact HB.out | apply below_alloc | apply pw_below_drewN | apply below_drew1 | refine below_set ?_ GE185.out | refine below_set ?_ GE186.out) | exact HB.out)⟩
  · rw [if_neg c3] at H
    have c3b0 : (a0_0 == a1_0) = false := beq_eq_false_iff_ne.mpr c3
    have c3b1 : (a0_0 != a1_0) = true := bne_iff_ne.mpr c3
    obtain rfl := Option.some.inj H
    go_enter Try.func58, Try.ntmps58
    go_wp2_with (first | ((with_reducible refine gate_dst (N := 2) rfl ?_); refine box_event ?hg (N := 2) ?hd (cs := #[.int .i64 a0_0, .string a0_1]) (t := 62) ?hr ?_; (case hd => rfl); (case hg => rfl); (case hr => first | (go_simp; done) | (go_simp; rfl)); intro gb185 hg w15 hbox hb; have n0_ := Aside0.mk (below_step (by repeat (first | (with_reducible first | exact HB.out | apply below_alloc | apply pw_below_drewN | apply below_drew1) | exact HB.out)) hb); have n1_ := Aside0.mk (hbox); have n2_ := Aside0.mk ((by rw [hg]; exact (below_size (by repeat (first | (with_reducible first | exact HB.out | apply below_alloc | apply pw_below_drewN | apply below_drew1) | exact HB.out))) : w.heap.size ≤ gb185)); have n3_ := Aside0.mk ((by rw [hg]; exact (below_size (by repeat (first | (with_reducible first | exact HB.out | apply below_alloc | apply pw_below_drewN | apply below_drew1) | exact HB.out))) : w.heap.size ≤ gb185)); clear HB; have HB := n0_; have BK185 := n1_; have GW185 := n2_; have GE185 := n3_; clear n0_ n1_ n2_ n3_; clear hb hbox hg) | ((with_reducible refine gate_dst (N := 3) rfl ?_); refine box_event ?hg (N := 3) ?hd (cs := #[.int .i64 a1_0, .string a1_1]) (t := 62) ?hr ?_; (case hd => rfl); (case hg => rfl); (case hr => first | (go_simp; done) | (go_simp; rfl)); intro gb186 hg w16 hbox hb; have n0_ := Aside0.mk (blk_below (g := gb185) (o := .cells #[.int .i64 a0_0, .string a0_1] 62 (0, 0)) (by (with_reducible repeat (first | refine blk_drewN ?_ _ | refine blk_drew ?_ | refine blk_alloc ?_ _)); exact BK185.out) hb); have n1_ := Aside0.mk (below_step (by repeat (first | (with_reducible first | exact HB.out | apply below_alloc | apply pw_below_drewN | apply below_drew1 | refine below_set ?_ GE185.out) | exact HB.out)) hb); have n2_ := Aside0.mk (hbox); have n3_ := Aside0.mk ((by rw [hg]; exact (below_size (by repeat (first | (with_reducible first | exact HB.out | apply below_alloc | apply pw_below_drewN | apply below_drew1 | refine below_set ?_ GE185.out) | exact HB.out))) : w.heap.size ≤ gb186)); have n4_ := Aside0.mk ((by rw [hg]; exact (below_size (by repeat (first | (with_reducible first | exact HB.out | apply below_alloc | apply pw_below_drewN | apply below_drew1 | refine below_set ?_ GE185.out) | exact HB.out))) : w.heap.size ≤ gb186)); have n5_ := Aside0.mk ((by rw [hg]; exact Nat.ne_of_lt (blk_lt (g := gb185) (o := .cells #[.int .i64 a0_0, .string a0_1] 62 (0, 0)) (by (with_reducible repeat (first | refine blk_drewN ?_ _ | refine blk_drew ?_ | refine blk_alloc ?_ _)); exact BK185.out)) : gb185 ≠ gb186)); have n6_ := Aside0.mk ((by rw [hg]; exact Nat.ne_of_gt (blk_lt (g := gb185) (o := .cells #[.int .i64 a0_0, .string a0_1] 62 (0, 0)) (by (with_reducible repeat (first | refine blk_drewN ?_ _ | refine blk_drew ?_ | refine blk_alloc ?_ _)); exact BK185.out)) : gb186 ≠ gb185)); clear BK185; clear HB; have BK185 := n0_; have HB := n1_; have BK186 := n2_; have GW186 := n3_; have GE186 := n4_; have NB185_186 := n5_; have NB186_185 := n6_; clear n0_ n1_ n2_ n3_ n4_ n5_ n6_; clear hb hbox hg; have hnb17 := NB185_186.out; have hnc17 := NB186_185.out; have hcz18_0 : w16.cell? ⟨gb185, 0, none⟩ = some (.int .i64 a0_0) := (blk_cell BK185.out 0).trans rfl; have hcz18_1 : w16.cell? ⟨gb185, 1, none⟩ = some (.string a0_1) := (blk_cell BK185.out 1).trans rfl; have hfz18_0 := blk_frozen BK185.out 0; have hfz18_1 := blk_frozen BK185.out 1; have hcz19_0 : w16.cell? ⟨gb186, 0, none⟩ = some (.int .i64 a1_0) := (blk_cell BK186.out 0).trans rfl; have hcz19_1 : w16.cell? ⟨gb186, 1, none⟩ = some (.string a1_1) := (blk_cell BK186.out 1).trans rfl; have hfz19_0 := blk_frozen BK186.out 0; have hfz19_1 := blk_frozen BK186.out 1))
    go_ret
    exact ⟨by first | rfl | (simp [errW_none, errW_some] <;> rfl) | (simp [*, errW_none, errW_some] <;> rfl), by repeat (first | (with_reducible first | exact HB.out | apply below_alloc | apply pw_below_drewN | apply below_drew1 | refine below_set ?_ GE185.out | refine below_set ?_ GE186.out) | exact HB.out)⟩

end Go.Proofs.Ytnahkojlamficaa.PFnExactApplyActs
