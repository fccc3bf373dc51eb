-- Laid by a program of this session: a turned copy of the kit's print, with contracts by hand beside.
import Derived.Test.YtbgnjnlecpdfaaaPFnExactSwitchx0
import Derived.Test.YtbgnjnlecpdfaaaPFnExactSwitchx2
namespace Go.Proofs.Ytbgnjnlecpdfaaa.PFnExactSwitch
open Go.RowKit Go.Proofs.YtbgnjnlecpdfaaaW.PrintWords Go.Proofs.YtbgnjnlecpdfaaaW.PrintLast Go.Proofs.YtbgnjnlecpdfaaaW.PrintMore
attribute [local go_sem] max2_int min2_int max_two min_two max_three min_three max_four min_four   -- for this text's walks alone
set_option linter.unusedVariables false
set_option linter.unusedSimpArgs false

/-! ### laws_markProfileS: function 18 -/
def laws_markProfileS.l0 : Nat → List S52 → Int → Int → Option (Int × List S52)
  | 0, _, _, _ => none
  | k + 1, x0, x1, x5 => if x5 < (x0.length : Int) then (if 0 ≤ x5 then ((laws_markText.f k x1).bind fun t0 => (laws_markGenS.f k (rd_T52 x0 x5).f2 (wrap64 ((wrap64 (x1 + 1)) + 1))).bind fun b => laws_markProfileS.l0 k (x0.set x5.toNat (⟨t0, (wrap64 (x1 + 1)), b.2⟩ : S52)) b.1 (wrap64 (x5 + 1))) else none) else some (x1, x0)
def laws_markProfileS.f (k : Nat) (l0 : List S52) (a1 : Int) : Option (Int × List S52) := laws_markProfileS.l0 k l0 a1 0
set_option maxHeartbeats 8000000 in
set_option maxRecDepth 100000 in
theorem laws_markProfileS.calls (k : Nat) (P0_ : Nat → Prop) (u9000_ : Value) (l0 : List S52) (a1 : Int) (r1 : Int) (r2 : List S52) (w0 w : World) (hB : Below w0.heap.size w0 w) (ho0 : Kd.S k52 52 w w0.heap.size P0_ u9000_ l0) (h : laws_markProfileS.f k l0 a1 = some (r1, r2)) :
    Calls Try.prog 18 #[u9000_, .int .i64 a1] w fun e w' => e = .returned (.int .i64 r1) ∧ Kd.S k52 52 w' w0.heap.size (fun k_ => (P0_ k_ ∨ w.heap.size ≤ k_)) u9000_ r2 ∧ Below w0.heap.size w0 w' ∧ Kept w w' (fun k_ => P0_ k_) := by
  have HO0 := Aside0.mk (show Kd.S k52 52 w w0.heap.size (fun k_ => (P0_ k_ ∨ w.heap.size ≤ k_)) u9000_ l0 from Kd.S_mono ho0 (fun k_ hk => (.inl hk)))
  have HK := Aside0.mk (Kept.refl w (fun k_ => P0_ k_))
  have HB := Aside0.mk hB
  clear hB
  have H' := Aside0.mk (show laws_markProfileS.l0 k l0 a1 0 = some (r1, r2) from h)
  clear h
  go_enter Try.func18, Try.ntmps18
  go_wp2
  go_loopg [1, 5] k (fun kq v1 v5 w' => ∃ (x0_1 : List S52) (x1_1 : Int) (x5_1 : Int), v1 = .int .i64 x1_1 ∧ v5 = .int .i64 x5_1 ∧ Aside0 (laws_markProfileS.l0 kq x0_1 x1_1 x5_1 = some (r1, r2)) ∧ Aside0 (kq ≤ k) ∧ Aside0 (Kd.S k52 52 w' w0.heap.size (fun k_ => (P0_ k_ ∨ w.heap.size ≤ k_)) u9000_ x0_1) ∧ Aside0 (Kept w w' (fun k_ => P0_ k_)) ∧ Aside0 (Below w0.heap.size w0 w'))
  case atStart => exact ⟨l0, a1, 0, rfl, rfl, H', ⟨Nat.le_refl _⟩, ⟨by (with_reducible repeat (first | apply Kd.S_alloc | apply Kd.S_drewN | apply Kd.S_drew)); exact HO0.out⟩, ⟨by repeat (first | (with_reducible first | exact HK.out | apply Kept.alloc | apply Kept.drewN | apply Kept.drew) | exact HK.out)⟩, ⟨by repeat (first | (with_reducible first | exact HB.out | apply below_alloc | apply pw_below_drewN | apply below_drew1) | exact HB.out)⟩⟩
  case round =>
    clear H' ho0 HO0 HB HK
    obtain ⟨x0_1, x1_1, x5_1, rfl, rfl, HA, HK1, HO_0, HK, HB⟩ := hrel
    cases gk with
    | zero => exact absurd HA.out (by simp [laws_markProfileS.l0])
    | succ k1 =>
      have H := HA.out
      clear HA
      simp only [laws_markProfileS.l0] at H
      by_cases c3 : x5_1 < (x0_1.length : Int)
      · rw [if_pos c3] at H
        have c3b0 : decide (x5_1 < (x0_1.length : Int)) = true := decide_eq_true c3
        by_cases c4 : 0 ≤ x5_1
        · rw [if_pos c4] at H
          have c4b0 : decide (0 ≤ x5_1) = true := decide_eq_true c4
          replace H := Option.bind_eq_some_iff.mp H
          obtain ⟨t0, E0, H⟩ := H
          have T0 := Aside0.mk E0
          clear E0
          replace H := Option.bind_eq_some_iff.mp H
          obtain ⟨⟨m_, g_⟩, E0, H⟩ := H
          have T2 := Aside0.mk E0
          clear E0
          dsimp only at H
          have H' := Aside0.mk H
          clear H
          obtain ⟨go5, co5, eo5, gb5, gl5, cl5, HG5⟩ := Kd.S_form HO_0.out (by omega)
          subst eo5
          have GB5 := Aside0.mk gb5
          clear gb5 gl5 HG5
          have HMgo5 := Aside0.mk (show (P0_ go5 ∨ w.heap.size ≤ go5) from ((Kd.S_R HO_0.out).1 _ rfl))
          obtain ⟨oki, ce, hcl, hM, hcc, hfr, hoki, hH⟩ := Kd.S_elem HO_0.out z52 (x5_1 : Int) c4 c3
          clear hcl hcc hfr
          replace hM : k52.M wr w0.heap.size oki (rd_T52 x0_1 x5_1) ce := hM
          obtain ⟨v2, rfl, hR⟩ := k52_openM hM
          obtain ⟨A2, c2, rfl⟩ := Kd.R_slice hR
          clear hM
          have p5 := Aside0.mk c4
          have q5 := Aside0.mk c3
          clear c3 c4 HO_0
          replace c4b1 := eq_true p5.out
          replace c3b1 := eq_true q5.out
          have HL := Aside0.mk hoki
          clear hoki
          have HH := Aside0.mk hH
          have HR := Aside0.mk hR
          clear hH hR
          obtain ⟨_, hcc_, hfr_⟩ := Kd.H_cells HH.out p5.out q5.out
          have hx_0 : wr.cell? ⟨go5, (x5_1 : Int).toNat * 3, none⟩ = some _ := hcc_ 0 _ rfl
          have hf_0 : wr.frozen? ⟨go5, (x5_1 : Int).toNat * 3, none⟩ = false := hfr_ 0
          have hx_1 : wr.cell? ⟨go5, (x5_1 : Int).toNat * 3 + 1, none⟩ = some _ := hcc_ 1 _ rfl
          have hf_1 : wr.frozen? ⟨go5, (x5_1 : Int).toNat * 3 + 1, none⟩ = false := hfr_ 1
          have hx_2 : wr.cell? ⟨go5, (x5_1 : Int).toNat * 3 + 2, none⟩ = some _ := hcc_ 2 _ rfl
          have hf_2 : wr.frozen? ⟨go5, (x5_1 : Int).toNat * 3 + 2, none⟩ = false := hfr_ 2
          clear hcc_ hfr_
          go_wp2_with (first | (go_at_call 43; (with_reducible refine (laws_markText.calls (w := _) (h := T0.out)).mono ?_); rintro e wa1 ⟨rfl, hb⟩; have n0_ := Aside0.mk (Kd.H_below HH.out hb); have n1_ := Aside0.mk (Kd.R_below HR.out hb); have n2_ := Aside0.mk (Kept.below (S := (fun k_ => P0_ k_)) (by repeat (first | (with_reducible first | exact HK.out | apply Kept.alloc | apply Kept.drewN | apply Kept.drew) | exact HK.out)) hb); have n3_ := Aside0.mk (below_step (by repeat (first | (with_reducible first | exact HB.out | apply below_alloc | apply pw_below_drewN | apply below_drew1) | exact HB.out)) hb); clear HH HR HK HB hb; have HH := n0_; have HR := n1_; have HK := n2_; have HB := n3_; clear n0_ n1_ n2_ n3_; (try clear hx_0 hf_0 hx_1 hf_1 hx_2 hf_2); obtain ⟨_, hcc_, hfr_⟩ := Kd.H_cells HH.out p5.out q5.out; have hx_0 : wa1.cell? ⟨go5, (x5_1 : Int).toNat * 3, none⟩ = some _ := hcc_ 0 _ rfl; have hf_0 : wa1.frozen? ⟨go5, (x5_1 : Int).toNat * 3, none⟩ = false := hfr_ 0; have hx_1 : wa1.cell? ⟨go5, (x5_1 : Int).toNat * 3 + 1, none⟩ = some _ := hcc_ 1 _ rfl; have hf_1 : wa1.frozen? ⟨go5, (x5_1 : Int).toNat * 3 + 1, none⟩ = false := hfr_ 1; have hx_2 : wa1.cell? ⟨go5, (x5_1 : Int).toNat * 3 + 2, none⟩ = some _ := hcc_ 2 _ rfl; have hf_2 : wa1.frozen? ⟨go5, (x5_1 : Int).toNat * 3 + 2, none⟩ = false := hfr_ 2; clear hcc_ hfr_) | ((with_reducible refine gate_store (t := 9) (p := 17) rfl ?_); refine store_event (t := 9) (p := 17) (v := ?vo_wa2) (w1 := (wa1.setCell ⟨go5, (x5_1 : Int).toNat * 3, none⟩ (.string t0))) ?hg ?ho ?hn ?hr ?_; (case ho => rfl); (case hg => rfl); (case hn => rfl); (case hr => first | (go_simp; done) | (go_simp; rfl)); intro wa2 hw; have HP := Kd.H_put HH.out p5.out q5.out 0 (.string t0) (by decide) rfl; have hg : wa1.grownBy wa2 (some go5) := (by rw [hw]; exact HP.2); have n0_ := Aside0.mk (show Kd.H k52 52 wa2 w0.heap.size (fun k_ => (P0_ k_ ∨ w.heap.size ≤ k_)) _ x0_1 (x5_1 : Int) oki _ from (by rw [hw]; exact HP.1)); have n1_ := Aside0.mk (Kd.R_grown HR.out hg (Kd.lent_ne HL.out)); have n2_ := Aside0.mk (Kept.of_grown (S := (fun k_ => P0_ k_)) hg (by repeat (first | (with_reducible first | exact HK.out | apply Kept.alloc | apply Kept.drewN | apply Kept.drew) | exact HK.out)) (fun k_ e_ => by injection e_ with e_; subst e_; exact HMgo5.out)); have n3_ := Aside0.mk ((by rw [hw]; exact below_set (by repeat (first | (with_reducible first | exact HB.out | apply below_alloc | apply pw_below_drewN | apply below_drew1) | exact HB.out)) GB5.out : Below w0.heap.size w0 wa2)); clear HH HR HK HB HP hg hw; have HH := n0_; have HR := n1_; have HK := n2_; have HB := n3_; clear n0_ n1_ n2_ n3_; (try clear hx_0 hf_0 hx_1 hf_1 hx_2 hf_2); obtain ⟨_, hcc_, hfr_⟩ := Kd.H_cells HH.out p5.out q5.out; have hx_0 : wa2.cell? ⟨go5, (x5_1 : Int).toNat * 3, none⟩ = some _ := hcc_ 0 _ rfl; have hf_0 : wa2.frozen? ⟨go5, (x5_1 : Int).toNat * 3, none⟩ = false := hfr_ 0; have hx_1 : wa2.cell? ⟨go5, (x5_1 : Int).toNat * 3 + 1, none⟩ = some _ := hcc_ 1 _ rfl; have hf_1 : wa2.frozen? ⟨go5, (x5_1 : Int).toNat * 3 + 1, none⟩ = false := hfr_ 1; have hx_2 : wa2.cell? ⟨go5, (x5_1 : Int).toNat * 3 + 2, none⟩ = some _ := hcc_ 2 _ rfl; have hf_2 : wa2.frozen? ⟨go5, (x5_1 : Int).toNat * 3 + 2, none⟩ = false := hfr_ 2; clear hcc_ hfr_) | ((with_reducible refine gate_store (t := 2) (p := 24) rfl ?_); refine store_event (t := 2) (p := 24) (v := ?vo_wa3) (w1 := (wa2.setCell ⟨go5, (x5_1 : Int).toNat * 3 + 1, none⟩ (.int .i64 ((wrap64 (x1_1 + 1)))))) ?hg ?ho ?hn ?hr ?_; (case ho => rfl); (case hg => rfl); (case hn => rfl); (case hr => first | (go_simp; done) | (go_simp; rfl)); intro wa3 hw; have HP := Kd.H_put HH.out p5.out q5.out 1 (.int .i64 ((wrap64 (x1_1 + 1)))) (by decide) rfl; have hg : wa2.grownBy wa3 (some go5) := (by rw [hw]; exact HP.2); have n0_ := Aside0.mk (show Kd.H k52 52 wa3 w0.heap.size (fun k_ => (P0_ k_ ∨ w.heap.size ≤ k_)) _ x0_1 (x5_1 : Int) oki _ from (by rw [hw]; exact HP.1)); have n1_ := Aside0.mk (Kd.R_grown HR.out hg (Kd.lent_ne HL.out)); have n2_ := Aside0.mk (Kept.of_grown (S := (fun k_ => P0_ k_)) hg (by repeat (first | (with_reducible first | exact HK.out | apply Kept.alloc | apply Kept.drewN | apply Kept.drew) | exact HK.out)) (fun k_ e_ => by injection e_ with e_; subst e_; exact HMgo5.out)); have n3_ := Aside0.mk ((by rw [hw]; exact below_set (by repeat (first | (with_reducible first | exact HB.out | apply below_alloc | apply pw_below_drewN | apply below_drew1) | exact HB.out)) GB5.out : Below w0.heap.size w0 wa3)); clear HH HR HK HB HP hg hw; have HH := n0_; have HR := n1_; have HK := n2_; have HB := n3_; clear n0_ n1_ n2_ n3_; (try clear hx_0 hf_0 hx_1 hf_1 hx_2 hf_2); obtain ⟨_, hcc_, hfr_⟩ := Kd.H_cells HH.out p5.out q5.out; have hx_0 : wa3.cell? ⟨go5, (x5_1 : Int).toNat * 3, none⟩ = some _ := hcc_ 0 _ rfl; have hf_0 : wa3.frozen? ⟨go5, (x5_1 : Int).toNat * 3, none⟩ = false := hfr_ 0; have hx_1 : wa3.cell? ⟨go5, (x5_1 : Int).toNat * 3 + 1, none⟩ = some _ := hcc_ 1 _ rfl; have hf_1 : wa3.frozen? ⟨go5, (x5_1 : Int).toNat * 3 + 1, none⟩ = false := hfr_ 1; have hx_2 : wa3.cell? ⟨go5, (x5_1 : Int).toNat * 3 + 2, none⟩ = some _ := hcc_ 2 _ rfl; have hf_2 : wa3.frozen? ⟨go5, (x5_1 : Int).toNat * 3 + 2, none⟩ = false := hfr_ 2; clear hcc_ hfr_) | (go_at_call 44; (with_reducible refine (laws_markGenS.calls (P0_ := oki) (w0 := w0) (hB := by repeat (first | (with_reducible first | exact HB.out | apply below_alloc | apply pw_below_drewN | apply below_drew1) | exact HB.out)) (ho0 := HR.out) (h := T2.out)).mono ?_); rintro e wa4 ⟨rfl, ho, hb0, hk⟩; have ho := Kd.R_mono (Kd.R_tight rfl ho) (ok' := oki) (fun k_ e_ => HR.out.1 k_ e_.symm); have hb1 := Kd.H_back (Kd.H_kept HH.out hk (fun _ _ hn => hn)) (k52_mkM _ _ _ (⟨t0, (wrap64 (x1_1 + 1)), g_⟩ : S52) ho) (fun _ h_ => h_); have n2_ := Aside0.mk (Kept.then_ (S := (fun k_ => P0_ k_)) (by repeat (first | (with_reducible first | exact HK.out | apply Kept.alloc | apply Kept.drewN | apply Kept.drew) | exact HK.out)) hk (fun k_ h_ => (HL.out k_ h_).1)); clear HH HR HK HB hk ho; have HO_0 := Aside0.mk hb1; have HK := n2_; have HB := Aside0.mk hb0; clear n2_ hb0 hb1; (try clear hx_0 hf_0 hx_1 hf_1 hx_2 hf_2)))
          go_roundg k1
          case measure => have := HK1.out; omega
          case rel => exact ⟨_, m_, _, rfl, rfl, H', ⟨by have := HK1.out; omega⟩, ⟨by (with_reducible repeat (first | apply Kd.S_alloc | apply Kd.S_drewN | apply Kd.S_drew)); exact HO_0.out⟩, ⟨by repeat (first | (with_reducible first | exact HK.out | apply Kept.alloc | apply Kept.drewN | apply Kept.drew) | exact HK.out)⟩, ⟨by repeat (first | (with_reducible first | exact HB.out | apply below_alloc | apply pw_below_drewN | apply below_drew1) | exact HB.out)⟩⟩
        · rw [if_neg c4] at H
          exact absurd H (by simp)
      · rw [if_neg c3] at H
        have c3b0 : decide (x5_1 < (x0_1.length : Int)) = false := decide_eq_false c3
        clear c3
        simp only [Option.some.injEq, Prod.mk.injEq] at H
        obtain ⟨rfl, rfl⟩ := H
        obtain ⟨Ao14, co14, eo14⟩ := Kd.S_slice HO_0.out
        subst eo14
        go_wp2
        go_ret
        exact ⟨rfl, by (with_reducible repeat (first | apply Kd.S_alloc | apply Kd.S_drewN | apply Kd.S_drew)); exact HO_0.out, by repeat (first | (with_reducible first | exact HB.out | apply below_alloc | apply pw_below_drewN | apply below_drew1) | exact HB.out), by repeat (first | (with_reducible first | exact HK.out | apply Kept.alloc | apply Kept.drewN | apply Kept.drew) | exact HK.out)⟩

/-! ### laws_heldGenS: function 45 -/
def laws_heldGenS.l0 : Nat → List (S56) → Int → Int → Option (Int)
 | 0, _, _, _ => none
 | k + 1, x0, x1, x5 => if x5 < (x0.length : Int) then (if 0 ≤ x5 then (if ((rd_T56 x0 x5).f0) = x1 then ((laws_markText.f k (wrap64 (x1 + 1))).bind fun t153 => (if ((rd_T56 x0 x5).f1).toList = t153.toList then (laws_heldGenS.l0 k x0 (wrap64 ((wrap64 (x1 + 1)) + 1)) (wrap64 (x5 + 1))) else (some (-1)))) else (some (-1))) else (none)) else (some x1)
def laws_heldGenS.f (k : Nat) (l0 : List (S56)) (a1 : Int) : Option (Int) := laws_heldGenS.l0 k l0 a1 0
theorem laws_heldGenS.mono_l : ∀ k, (∀ y0 y1 y2, LeO (laws_heldGenS.l0 k y0 y1 y2) (laws_heldGenS.l0 (k + 1) y0 y1 y2))
 | 0 => fun _ _ _ r h => by simp [laws_heldGenS.l0] at h
 | k + 1 => by
  have ih0 := laws_heldGenS.mono_l k
  ·intro y0 y1 y2
   unfold laws_heldGenS.l0
   repeat' first
   | (with_reducible exact ih0 _ _ _)
   | (with_reducible exact laws_markText.mono _ _)
   | (with_reducible exact LeO.refl _)
   | (with_reducible exact LeO.none _)
   | (with_reducible refine LeO.ite ?_ ?_)
   | (with_reducible refine LeO.bind ?_ (fun _ => ?_))
   | exact ih0 _ _ _
   | exact laws_markText.mono _ _
   | exact LeO.none _
   | refine LeO.ite ?_ ?_
   | refine LeO.bind ?_ (fun _ => ?_)
theorem laws_heldGenS.mono : ∀ a0 a1 k, LeO (laws_heldGenS.f k a0 a1) (laws_heldGenS.f (k + 1) a0 a1) := by
 intro a0 a1 k
 have ih0 := laws_heldGenS.mono_l k
 unfold laws_heldGenS.f
 repeat' first
   | (with_reducible exact ih0 _ _ _)
   | (with_reducible exact laws_markText.mono _ _)
   | (with_reducible exact LeO.refl _)
   | (with_reducible exact LeO.none _)
   | (with_reducible refine LeO.ite ?_ ?_)
   | (with_reducible refine LeO.bind ?_ (fun _ => ?_))
   | exact ih0 _ _ _
   | exact laws_markText.mono _ _
   | exact LeO.none _
   | refine LeO.ite ?_ ?_
   | refine LeO.bind ?_ (fun _ => ?_)
def laws_heldGenS.T7 : Bool × List (List Nat × List Nat) := (true, [([], []), ([], []), ([0, 1], [0, 1]), ([2], [2]), ([3], [3]), ([], []), ([5], [5]), ([4, 6], [4, 6])])
def laws_heldGenS.B7 : List Nat := [0, 0, 3, 7, 15, 0, 32, 127]
theorem laws_heldGenS.tab7 : rtab .any (opsOf Try.f45 7) = laws_heldGenS.T7 := by kernel_rfl
theorem laws_heldGenS.bits7 : waitsOk laws_heldGenS.T7.2 laws_heldGenS.B7 = true := by kernel_rfl
set_option maxHeartbeats 8000000 in
set_option maxRecDepth 100000 in
theorem laws_heldGenS.calls (k : Nat) (A0 : Option Addr) (c0 : Nat) (l0 : List (S56)) (a1 : Int) (r : Int) (w : World) (hr0 : Kd.C k56 w A0 l0.length l0) (hc0 : l0.length ≤ c0) (h : laws_heldGenS.f k l0 a1 = some r) :
  Calls Try.prog 45 #[.slice A0 l0.length c0, .int .i64 a1] w fun e w' => e = .returned (.int .i64 r) ∧ Below w.heap.size w w' := by
 have HR0 := Aside0.mk hr0
 have HC0 := Aside0.mk hc0
 clear hr0 hc0
 have HB := Aside0.mk (Below.refl w.heap.size w)
 have H : (laws_heldGenS.l0 k l0 a1 0) = some r := h
 clear h
 have H' := Aside0.mk H
 clear H
 go_enter Try.func45, Try.ntmps45
 go_wp2
 go_loopg [1, 5] k (fun kq v1 v5 w' => ∃ (x1_1 : Int) (x5_1 : Int), v1 = .int .i64 x1_1 ∧ v5 = .int .i64 x5_1 ∧ Aside0 (laws_heldGenS.l0 kq l0 x1_1 x5_1 = some r) ∧ Aside0 (kq ≤ k) ∧ Aside0 (Below w.heap.size w w'))
 case atStart => exact ⟨(a1), (0), (by first | rfl | (simp; done) | (simp [*]; done)), (by first | rfl | (simp; done) | (simp [*]; done)), H', ⟨Nat.le_refl _⟩, ⟨by repeat (first | (with_reducible first | exact HB.out | apply below_alloc | apply pw_below_drewN | apply below_drew1) | exact HB.out)⟩⟩
 case round =>
  clear H'
  try clear p2
  obtain ⟨x1_1, x5_1, rfl, rfl, HA, HK1, HB⟩ := hrel
  cases gk with
  | zero => exact absurd HA.out (by simp [laws_heldGenS.l0])
  | succ k1 =>
   have H := HA.out
   clear HA
   simp only [laws_heldGenS.l0] at H
   by_cases c3 : x5_1 < (l0.length : Int)
   ·rw [if_pos c3] at H
    have c3b0 : decide (x5_1 < (l0.length : Int)) = true := decide_eq_true c3
    clear c3
    by_cases c4 : 0 ≤ x5_1
    ·rw [if_pos c4] at H
     have c4b0 : decide (0 ≤ x5_1) = true := decide_eq_true c4
     clear c4
     by_cases c5 : ((rd_T56 l0 x5_1).f0) = x1_1
     ·rw [if_pos c5] at H
      have c5b0 : (((rd_T56 l0 x5_1).f0) == x1_1) = true := beq_iff_eq.mpr c5
      have c5b1 : (((rd_T56 l0 x5_1).f0) != x1_1) = false := bne_eq_false_iff_eq.mpr c5
      clear c5
      replace H := Option.bind_eq_some_iff.mp H
      obtain ⟨t153, A60, H⟩ := H
      replace H : (if ((rd_T56 l0 x5_1).f1).toList = t153.toList then (laws_heldGenS.l0 k1 l0 (wrap64 ((wrap64 (x1_1 + 1)) + 1)) (wrap64 (x5_1 + 1))) else (some (-1))) = some r := H
      have A6 := Aside0.mk A60
      clear A60
      by_cases c7 : ((rd_T56 l0 x5_1).f1).toList = t153.toList
      ·rw [if_pos c7] at H
       have c7b0 : (((rd_T56 l0 x5_1).f1).toList == t153.toList) = true := beq_iff_eq.mpr c7
       have c7b1 : (((rd_T56 l0 x5_1).f1).toList != t153.toList) = false := bne_eq_false_iff_eq.mpr c7
       clear c7
       have H' := Aside0.mk H
       clear H
       have p151 : 0 ≤ (x5_1 : Int) := of_decide_eq_true (by first | (with_reducible assumption) | assumption)
       have q151 : x5_1 < (l0.length : Int) := of_decide_eq_true (by first | (with_reducible assumption) | assumption)
       obtain ⟨ad151, e151, hx151_0, hx151_1⟩ := at_T56 HR0.out x5_1 p151 q151
       cases e151
       try (replace hx151_0 := (HB.out.cell (World.block_lt_of_cell? w _ hx151_0)).trans hx151_0)
       try (replace hx151_1 := (HB.out.cell (World.block_lt_of_cell? w _ hx151_1)).trans hx151_1)
       replace p151 := eq_true p151
       replace q151 := eq_true q151
       try go_wp2
       have n0_ := Aside0.mk (below_drew1 HB.out)
       clear HB
       have HB := n0_
       clear n0_
       have p152 : 0 ≤ (x5_1 : Int) := of_decide_eq_true (by first | (with_reducible assumption) | assumption)
       have q152 : x5_1 < (l0.length : Int) := of_decide_eq_true (by first | (with_reducible assumption) | assumption)
       obtain ⟨ad152, e152, hx152_0, hx152_1⟩ := at_T56 HR0.out x5_1 p152 q152
       have hw152_1 := hx152_1
       have hw152_0 := hx152_0
       obtain rfl : ad151 = ad152 := (by injection e152)
       try (replace hx152_0 := (HB.out.cell (World.block_lt_of_cell? w _ hx152_0)).trans hx152_0)
       try (replace hx152_1 := (HB.out.cell (World.block_lt_of_cell? w _ hx152_1)).trans hx152_1)
       replace p152 := eq_true p152
       replace q152 := eq_true q152
       refine start_ (n := 8) (S := fun w' => w'.cell? (ad151.add ((x5_1).toNat * 2)) = some (.int .i64 ((rd_T56 l0 x5_1).f0)) ∧ w'.cell? ⟨(ad151.add ((x5_1).toNat * 2)).block, (ad151.add ((x5_1).toNat * 2)).off + 1, none⟩ = some (.string ((rd_T56 l0 x5_1).f1))) (ds := []) (tf 8 0) (by kernel_rfl) rfl rfl ⟨((HB.out.cell (World.block_lt_of_cell? w _ hw152_0)).trans hw152_0), ((HB.out.cell (World.block_lt_of_cell? w _ hw152_1)).trans hw152_1)⟩ (fun hHeld => ?_); refine with_tabW laws_heldGenS.tab7 laws_heldGenS.bits7 (fun HT_ HW_ => ?_)
       generalize wr.drew = w8 at HB hx152_0 hx152_1 hHeld ⊢
       refine qA 0 21 (tf 8 1) ?_
       refine qA 1 22 (tf 8 3) ?_
       refine qA 2 23 (tf 8 7) ?_
       refine qA 3 24 (tf 8 15) ?_
       refine qA 5 26 (tf 8 47) ?_
       refine qT 4 25 (tf 8 63) ?_
       refine one_ (i := 6) (N := some 27) (tf 8 127) rfl rfl (one_of HT_.out (by kernel_rfl)) (by decide) (fun K hK => ?_)
       refine goes_ Try.func43 (by kernel_rfl) rfl #[.int .i64 (wrap64 (x1_1 + 1))] (by rfl) rfl rfl (by (try simp only [List.map_toArray, List.map_cons, List.map_nil]); first | done | rfl | (simp only [List.length_drop, List.length_take]; rfl)) ?_
       with_reducible refine (laws_markText.calls k1 (wrap64 (x1_1 + 1)) t153 _ A6.out).mono ?_
       rintro e w9 ⟨rfl, hb⟩
       refine ⟨_, rfl, ?_⟩
       have n0_ := Aside0.mk (below_step qB hb)
       clear HB
       have HB := n0_
       clear n0_
       (try clear hb)
       (try clear hb2)
       (try clear hk)
       (try clear hi)
       refine hK.out _ _ ⟨((HB.out.cell (World.block_lt_of_cell? w _ hw152_0)).trans hw152_0), ((HB.out.cell (World.block_lt_of_cell? w _ hw152_1)).trans hw152_1)⟩ (fun hHeld => ?_)
       clear hK K
       refine norm_ (a' := ?_) ?_ ?_
       rotate_left
       ·show Act.put _ (some 27) _ = _
        simp only [Act.put, sT, s0, sS, i64_w, i32_w]
        rfl
       refine qA 7 28 (tf 8 255) ?_
       refine done_ (done_of HT_.out (by kernel_rfl)) ?_
       try go_wp2
       go_roundg k1
       case measure => have := HK1.out; omega
       case rel => exact ⟨(wrap64 ((wrap64 (x1_1 + 1)) + 1)), (wrap64 (x5_1 + 1)), (by first | rfl | (simp; done) | (simp [*]; done)), (by first | rfl | (simp; done) | (simp [*]; done)), H', ⟨by have := HK1.out; omega⟩, ⟨by repeat (first | (with_reducible first | exact HB.out | apply below_alloc | apply pw_below_drewN | apply below_drew1) | exact HB.out)⟩⟩
      ·rw [if_neg c7] at H
       have c7b0 : (((rd_T56 l0 x5_1).f1).toList == t153.toList) = false := beq_eq_false_iff_ne.mpr c7
       have c7b1 : (((rd_T56 l0 x5_1).f1).toList != t153.toList) = true := bne_iff_ne.mpr c7
       obtain rfl := Option.some.inj H
       have p151 : 0 ≤ (x5_1 : Int) := of_decide_eq_true (by first | (with_reducible assumption) | assumption)
       have q151 : x5_1 < (l0.length : Int) := of_decide_eq_true (by first | (with_reducible assumption) | assumption)
       obtain ⟨ad151, e151, hx151_0, hx151_1⟩ := at_T56 HR0.out x5_1 p151 q151
       cases e151
       try (replace hx151_0 := (HB.out.cell (World.block_lt_of_cell? w _ hx151_0)).trans hx151_0)
       try (replace hx151_1 := (HB.out.cell (World.block_lt_of_cell? w _ hx151_1)).trans hx151_1)
       replace p151 := eq_true p151
       replace q151 := eq_true q151
       try go_wp2
       have n0_ := Aside0.mk (below_drew1 HB.out)
       clear HB
       have HB := n0_
       clear n0_
       have p152 : 0 ≤ (x5_1 : Int) := of_decide_eq_true (by first | (with_reducible assumption) | assumption)
       have q152 : x5_1 < (l0.length : Int) := of_decide_eq_true (by first | (with_reducible assumption) | assumption)
       obtain ⟨ad152, e152, hx152_0, hx152_1⟩ := at_T56 HR0.out x5_1 p152 q152
       have hw152_1 := hx152_1
       have hw152_0 := hx152_0
       obtain rfl : ad151 = ad152 := (by injection e152)
       try (replace hx152_0 := (HB.out.cell (World.block_lt_of_cell? w _ hx152_0)).trans hx152_0)
       try (replace hx152_1 := (HB.out.cell (World.block_lt_of_cell? w _ hx152_1)).trans hx152_1)
       replace p152 := eq_true p152
       replace q152 := eq_true q152
       refine start_ (n := 8) (S := fun w' => w'.cell? (ad151.add ((x5_1).toNat * 2)) = some (.int .i64 ((rd_T56 l0 x5_1).f0)) ∧ w'.cell? ⟨(ad151.add ((x5_1).toNat * 2)).block, (ad151.add ((x5_1).toNat * 2)).off + 1, none⟩ = some (.string ((rd_T56 l0 x5_1).f1))) (ds := []) (tf 8 0) (by kernel_rfl) rfl rfl ⟨((HB.out.cell (World.block_lt_of_cell? w _ hw152_0)).trans hw152_0), ((HB.out.cell (World.block_lt_of_cell? w _ hw152_1)).trans hw152_1)⟩ (fun hHeld => ?_); refine with_tabW laws_heldGenS.tab7 laws_heldGenS.bits7 (fun HT_ HW_ => ?_)
       generalize wr.drew = w10 at HB hx152_0 hx152_1 hHeld ⊢
       refine qA 0 21 (tf 8 1) ?_
       refine qA 1 22 (tf 8 3) ?_
       refine qA 2 23 (tf 8 7) ?_
       refine qA 3 24 (tf 8 15) ?_
       refine qA 5 26 (tf 8 47) ?_
       refine qT 4 25 (tf 8 63) ?_
       refine one_ (i := 6) (N := some 27) (tf 8 127) rfl rfl (one_of HT_.out (by kernel_rfl)) (by decide) (fun K hK => ?_)
       refine goes_ Try.func43 (by kernel_rfl) rfl #[.int .i64 (wrap64 (x1_1 + 1))] (by rfl) rfl rfl (by (try simp only [List.map_toArray, List.map_cons, List.map_nil]); first | done | rfl | (simp only [List.length_drop, List.length_take]; rfl)) ?_
       with_reducible refine (laws_markText.calls k1 (wrap64 (x1_1 + 1)) t153 _ A6.out).mono ?_
       rintro e w11 ⟨rfl, hb⟩
       refine ⟨_, rfl, ?_⟩
       have n0_ := Aside0.mk (below_step qB hb)
       clear HB
       have HB := n0_
       clear n0_
       (try clear hb)
       (try clear hb2)
       (try clear hk)
       (try clear hi)
       refine hK.out _ _ ⟨((HB.out.cell (World.block_lt_of_cell? w _ hw152_0)).trans hw152_0), ((HB.out.cell (World.block_lt_of_cell? w _ hw152_1)).trans hw152_1)⟩ (fun hHeld => ?_)
       clear hK K
       refine norm_ (a' := ?_) ?_ ?_
       rotate_left
       ·show Act.put _ (some 27) _ = _
        simp only [Act.put, sT, s0, sS, i64_w, i32_w]
        rfl
       refine qA 7 28 (tf 8 255) ?_
       refine done_ (done_of HT_.out (by kernel_rfl)) ?_
       try go_wp2
       go_ret
       exact ⟨by first | rfl | (simp [errW_none, errW_some] <;> rfl) | (simp [*, errW_none, errW_some] <;> rfl), by repeat (first | (with_reducible first | exact HB.out | apply below_alloc | apply pw_below_drewN | apply below_drew1) | exact HB.out)⟩
     ·rw [if_neg c5] at H
      have c5b0 : (((rd_T56 l0 x5_1).f0) == x1_1) = false := beq_eq_false_iff_ne.mpr c5
      have c5b1 : (((rd_T56 l0 x5_1).f0) != x1_1) = true := bne_iff_ne.mpr c5
      obtain rfl := Option.some.inj H
      have p151 : 0 ≤ (x5_1 : Int) := of_decide_eq_true (by first | (with_reducible assumption) | assumption)
      have q151 : x5_1 < (l0.length : Int) := of_decide_eq_true (by first | (with_reducible assumption) | assumption)
      obtain ⟨ad151, e151, hx151_0, hx151_1⟩ := at_T56 HR0.out x5_1 p151 q151
      cases e151
      try (replace hx151_0 := (HB.out.cell (World.block_lt_of_cell? w _ hx151_0)).trans hx151_0)
      try (replace hx151_1 := (HB.out.cell (World.block_lt_of_cell? w _ hx151_1)).trans hx151_1)
      replace p151 := eq_true p151
      replace q151 := eq_true q151
      go_wp2
      go_ret
      exact ⟨by first | rfl | (simp [errW_none, errW_some] <;> rfl) | (simp [*, errW_none, errW_some] <;> rfl), by repeat (first | (with_reducible first | exact HB.out | apply below_alloc | apply pw_below_drewN | apply below_drew1) | exact HB.out)⟩
    ·rw [if_neg c4] at H
     exact absurd H (by simp)
   ·rw [if_neg c3] at H
    have c3b0 : decide (x5_1 < (l0.length : Int)) = false := decide_eq_false c3
    clear c3
    obtain rfl := Option.some.inj H
    go_wp2
    go_ret
    exact ⟨by first | rfl | (simp [errW_none, errW_some] <;> rfl) | (simp [*, errW_none, errW_some] <;> rfl), by repeat (first | (with_reducible first | exact HB.out | apply below_alloc | apply pw_below_drewN | apply below_drew1) | exact HB.out)⟩

/-! ### laws_heldProfileS: function 19 -/
def laws_heldProfileS.l0 : Nat → List (S52) → Int → Int → Option (Int)
 | 0, _, _, _ => none
 | k + 1, x0, x1, x5 => if x5 < (x0.length : Int) then (if 0 ≤ x5 then ((laws_markText.f k x1).bind fun t155 => (if ((rd_T52 x0 x5).f0).toList = t155.toList then (if ((rd_T52 x0 x5).f1) = (wrap64 (x1 + 1)) then ((laws_heldGenS.f k ((rd_T52 x0 x5).f2) (wrap64 ((wrap64 (x1 + 1)) + 1))).bind fun t158 => (if t158 < 0 then (some (-1)) else (laws_heldProfileS.l0 k x0 t158 (wrap64 (x5 + 1))))) else (some (-1))) else (some (-1)))) else (none)) else (some x1)
def laws_heldProfileS.f (k : Nat) (l0 : List (S52)) (a1 : Int) : Option (Int) := laws_heldProfileS.l0 k l0 a1 0
theorem laws_heldProfileS.mono_l : ∀ k, (∀ y0 y1 y2, LeO (laws_heldProfileS.l0 k y0 y1 y2) (laws_heldProfileS.l0 (k + 1) y0 y1 y2))
 | 0 => fun _ _ _ r h => by simp [laws_heldProfileS.l0] at h
 | k + 1 => by
  have ih0 := laws_heldProfileS.mono_l k
  ·intro y0 y1 y2
   unfold laws_heldProfileS.l0
   repeat' first
   | (with_reducible exact ih0 _ _ _)
   | (with_reducible exact laws_heldGenS.mono _ _ _)
   | (with_reducible exact laws_markText.mono _ _)
   | (with_reducible exact LeO.refl _)
   | (with_reducible exact LeO.none _)
   | (with_reducible refine LeO.ite ?_ ?_)
   | (with_reducible refine LeO.bind ?_ (fun _ => ?_))
   | exact ih0 _ _ _
   | exact laws_heldGenS.mono _ _ _
   | exact laws_markText.mono _ _
   | exact LeO.none _
   | refine LeO.ite ?_ ?_
   | refine LeO.bind ?_ (fun _ => ?_)
theorem laws_heldProfileS.mono : ∀ a0 a1 k, LeO (laws_heldProfileS.f k a0 a1) (laws_heldProfileS.f (k + 1) a0 a1) := by
 intro a0 a1 k
 have ih0 := laws_heldProfileS.mono_l k
 unfold laws_heldProfileS.f
 repeat' first
   | (with_reducible exact ih0 _ _ _)
   | (with_reducible exact laws_heldGenS.mono _ _ _)
   | (with_reducible exact laws_markText.mono _ _)
   | (with_reducible exact LeO.refl _)
   | (with_reducible exact LeO.none _)
   | (with_reducible refine LeO.ite ?_ ?_)
   | (with_reducible refine LeO.bind ?_ (fun _ => ?_))
   | exact ih0 _ _ _
   | exact laws_heldGenS.mono _ _ _
   | exact laws_markText.mono _ _
   | exact LeO.none _
   | refine LeO.ite ?_ ?_
   | refine LeO.bind ?_ (fun _ => ?_)
def laws_heldProfileS.T4 : Bool × List (List Nat × List Nat) := (true, [([], []), ([], []), ([0, 1], [0, 1]), ([2], [2]), ([3], [3]), ([], []), ([5], [5]), ([4, 6], [4, 6])])
def laws_heldProfileS.B4 : List Nat := [0, 0, 3, 7, 15, 0, 32, 127]
theorem laws_heldProfileS.tab4 : rtab .any (opsOf Try.f19 4) = laws_heldProfileS.T4 := by kernel_rfl
theorem laws_heldProfileS.bits4 : waitsOk laws_heldProfileS.T4.2 laws_heldProfileS.B4 = true := by kernel_rfl
set_option maxHeartbeats 8000000 in
set_option maxRecDepth 100000 in
theorem laws_heldProfileS.calls (k : Nat) (A0 : Option Addr) (c0 : Nat) (l0 : List (S52)) (a1 : Int) (r : Int) (w : World) (hr0 : Kd.C k52 w A0 l0.length l0) (hc0 : l0.length ≤ c0) (h : laws_heldProfileS.f k l0 a1 = some r) :
  Calls Try.prog 19 #[.slice A0 l0.length c0, .int .i64 a1] w fun e w' => e = .returned (.int .i64 r) ∧ Below w.heap.size w w' := by
 have HR0 := Aside0.mk hr0
 have HC0 := Aside0.mk hc0
 clear hr0 hc0
 have HB := Aside0.mk (Below.refl w.heap.size w)
 have H : (laws_heldProfileS.l0 k l0 a1 0) = some r := h
 clear h
 have H' := Aside0.mk H
 clear H
 go_enter Try.func19, Try.ntmps19
 go_wp2
 go_loopg [1, 5] k (fun kq v1 v5 w' => ∃ (x1_1 : Int) (x5_1 : Int), v1 = .int .i64 x1_1 ∧ v5 = .int .i64 x5_1 ∧ Aside0 (laws_heldProfileS.l0 kq l0 x1_1 x5_1 = some r) ∧ Aside0 (kq ≤ k) ∧ Aside0 (Below w.heap.size w w'))
 case atStart => exact ⟨(a1), (0), (by first | rfl | (simp; done) | (simp [*]; done)), (by first | rfl | (simp; done) | (simp [*]; done)), H', ⟨Nat.le_refl _⟩, ⟨by repeat (first | (with_reducible first | exact HB.out | apply below_alloc | apply pw_below_drewN | apply below_drew1) | exact HB.out)⟩⟩
 case round =>
  clear H'
  try clear c1
  try clear p2
  obtain ⟨x1_1, x5_1, rfl, rfl, HA, HK1, HB⟩ := hrel
  cases gk with
  | zero => exact absurd HA.out (by simp [laws_heldProfileS.l0])
  | succ k1 =>
   have H := HA.out
   clear HA
   simp only [laws_heldProfileS.l0] at H
   by_cases c3 : x5_1 < (l0.length : Int)
   ·rw [if_pos c3] at H
    have c3b0 : decide (x5_1 < (l0.length : Int)) = true := decide_eq_true c3
    clear c3
    by_cases c4 : 0 ≤ x5_1
    ·rw [if_pos c4] at H
     have c4b0 : decide (0 ≤ x5_1) = true := decide_eq_true c4
     clear c4
     replace H := Option.bind_eq_some_iff.mp H
     obtain ⟨t155, A50, H⟩ := H
     replace H : (if ((rd_T52 l0 x5_1).f0).toList = t155.toList then (if ((rd_T52 l0 x5_1).f1) = (wrap64 (x1_1 + 1)) then ((laws_heldGenS.f k1 ((rd_T52 l0 x5_1).f2) (wrap64 ((wrap64 (x1_1 + 1)) + 1))).bind fun t158 => (if t158 < 0 then (some (-1)) else (laws_heldProfileS.l0 k1 l0 t158 (wrap64 (x5_1 + 1))))) else (some (-1))) else (some (-1))) = some r := H
     have A5 := Aside0.mk A50
     clear A50
     by_cases c6 : ((rd_T52 l0 x5_1).f0).toList = t155.toList
     ·rw [if_pos c6] at H
      have c6b0 : (((rd_T52 l0 x5_1).f0).toList == t155.toList) = true := beq_iff_eq.mpr c6
      have c6b1 : (((rd_T52 l0 x5_1).f0).toList != t155.toList) = false := bne_eq_false_iff_eq.mpr c6
      clear c6
      by_cases c7 : ((rd_T52 l0 x5_1).f1) = (wrap64 (x1_1 + 1))
      ·rw [if_pos c7] at H
       have c7b0 : (((rd_T52 l0 x5_1).f1) == (wrap64 (x1_1 + 1))) = true := beq_iff_eq.mpr c7
       have c7b1 : (((rd_T52 l0 x5_1).f1) != (wrap64 (x1_1 + 1))) = false := bne_eq_false_iff_eq.mpr c7
       clear c7
       replace H := Option.bind_eq_some_iff.mp H
       obtain ⟨t158, A80, H⟩ := H
       replace H : (if t158 < 0 then (some (-1)) else (laws_heldProfileS.l0 k1 l0 t158 (wrap64 (x5_1 + 1)))) = some r := H
       have A8 := Aside0.mk A80
       clear A80
       by_cases c9 : t158 < 0
       ·rw [if_pos c9] at H
        have c9b0 : decide (t158 < 0) = true := decide_eq_true c9
        clear c9
        obtain rfl := Option.some.inj H
        try go_wp2
        have n0_ := Aside0.mk (below_drew1 HB.out)
        clear HB
        have HB := n0_
        clear n0_
        have p154 : 0 ≤ (x5_1 : Int) := of_decide_eq_true (by first | (with_reducible assumption) | assumption)
        have q154 : x5_1 < (l0.length : Int) := of_decide_eq_true (by first | (with_reducible assumption) | assumption)
        obtain ⟨ad154, A154_2, c154_2, e154, hx154_0, hx154_1, hx154_2, hl154_2, hi154_2⟩ := at_T52 HR0.out x5_1 p154 q154
        have hw154_2 := hx154_2
        have hw154_1 := hx154_1
        have hw154_0 := hx154_0
        cases e154
        try (replace hx154_0 := (HB.out.cell (World.block_lt_of_cell? w _ hx154_0)).trans hx154_0)
        try (replace hx154_1 := (HB.out.cell (World.block_lt_of_cell? w _ hx154_1)).trans hx154_1)
        try (replace hx154_2 := (HB.out.cell (World.block_lt_of_cell? w _ hx154_2)).trans hx154_2)
        have HR154_2 := Aside0.mk hi154_2
        have HC154_2 := Aside0.mk hl154_2
        clear hi154_2 hl154_2
        replace p154 := eq_true p154
        replace q154 := eq_true q154
        refine start_ (n := 8) (S := fun w' => w'.cell? (ad154.add ((x5_1).toNat * 3)) = some (.string ((rd_T52 l0 x5_1).f0)) ∧ w'.cell? ⟨(ad154.add ((x5_1).toNat * 3)).block, (ad154.add ((x5_1).toNat * 3)).off + 1, none⟩ = some (.int .i64 ((rd_T52 l0 x5_1).f1)) ∧ w'.cell? ⟨(ad154.add ((x5_1).toNat * 3)).block, (ad154.add ((x5_1).toNat * 3)).off + 2, none⟩ = some (.slice A154_2 ((rd_T52 l0 x5_1).f2).length c154_2)) (ds := []) (tf 8 0) (by kernel_rfl) rfl rfl ⟨((HB.out.cell (World.block_lt_of_cell? w _ hw154_0)).trans hw154_0), ((HB.out.cell (World.block_lt_of_cell? w _ hw154_1)).trans hw154_1), ((HB.out.cell (World.block_lt_of_cell? w _ hw154_2)).trans hw154_2)⟩ (fun hHeld => ?_); refine with_tabW laws_heldProfileS.tab4 laws_heldProfileS.bits4 (fun HT_ HW_ => ?_)
        generalize wr.drew = w10 at HB HR154_2 hx154_0 hx154_1 hx154_2 hHeld ⊢
        refine qA 0 12 (tf 8 1) ?_
        refine qA 1 13 (tf 8 3) ?_
        refine qA 2 14 (tf 8 7) ?_
        refine qA 3 15 (tf 8 15) ?_
        refine qA 5 17 (tf 8 47) ?_
        refine qT 4 16 (tf 8 63) ?_
        refine one_ (i := 6) (N := some 18) (tf 8 127) rfl rfl (one_of HT_.out (by kernel_rfl)) (by decide) (fun K hK => ?_)
        refine goes_ Try.func43 (by kernel_rfl) rfl #[.int .i64 x1_1] (by rfl) rfl rfl (by (try simp only [List.map_toArray, List.map_cons, List.map_nil]); first | done | rfl | (simp only [List.length_drop, List.length_take]; rfl)) ?_
        with_reducible refine (laws_markText.calls k1 x1_1 t155 _ A5.out).mono ?_
        rintro e w11 ⟨rfl, hb⟩
        refine ⟨_, rfl, ?_⟩
        have n0_ := Aside0.mk (below_step qB hb)
        clear HB
        have HB := n0_
        clear n0_
        (try clear hb)
        (try clear hb2)
        (try clear hk)
        (try clear hi)
        refine hK.out _ _ ⟨((HB.out.cell (World.block_lt_of_cell? w _ hw154_0)).trans hw154_0), ((HB.out.cell (World.block_lt_of_cell? w _ hw154_1)).trans hw154_1), ((HB.out.cell (World.block_lt_of_cell? w _ hw154_2)).trans hw154_2)⟩ (fun hHeld => ?_)
        clear hK K
        refine norm_ (a' := ?_) ?_ ?_
        rotate_left
        ·show Act.put _ (some 18) _ = _
         simp only [Act.put, sT, s0, sS, i64_w, i32_w]
         rfl
        refine qA 7 19 (tf 8 255) ?_
        refine done_ (done_of HT_.out (by kernel_rfl)) ?_
        have p156 : 0 ≤ (x5_1 : Int) := of_decide_eq_true (by first | (with_reducible assumption) | assumption)
        have q156 : x5_1 < (l0.length : Int) := of_decide_eq_true (by first | (with_reducible assumption) | assumption)
        obtain ⟨ad156, A156_2, c156_2, e156, hx156_0, hx156_1, hx156_2, hl156_2, hi156_2⟩ := at_T52 HR0.out x5_1 p156 q156
        obtain rfl : ad154 = ad156 := (by injection e156)
        try (replace hx156_0 := (HB.out.cell (World.block_lt_of_cell? w _ hx156_0)).trans hx156_0)
        try (replace hx156_1 := (HB.out.cell (World.block_lt_of_cell? w _ hx156_1)).trans hx156_1)
        try (replace hx156_2 := (HB.out.cell (World.block_lt_of_cell? w _ hx156_2)).trans hx156_2)
        have HR156_2 := Aside0.mk hi156_2
        have HC156_2 := Aside0.mk hl156_2
        clear hi156_2 hl156_2
        replace p156 := eq_true p156
        replace q156 := eq_true q156
        have p157 : 0 ≤ (x5_1 : Int) := of_decide_eq_true (by first | (with_reducible assumption) | assumption)
        have q157 : x5_1 < (l0.length : Int) := of_decide_eq_true (by first | (with_reducible assumption) | assumption)
        obtain ⟨ad157, A157_2, c157_2, e157, hx157_0, hx157_1, hx157_2, hl157_2, hi157_2⟩ := at_T52 HR0.out x5_1 p157 q157
        obtain rfl : ad154 = ad157 := (by injection e157)
        try (replace hx157_0 := (HB.out.cell (World.block_lt_of_cell? w _ hx157_0)).trans hx157_0)
        try (replace hx157_1 := (HB.out.cell (World.block_lt_of_cell? w _ hx157_1)).trans hx157_1)
        try (replace hx157_2 := (HB.out.cell (World.block_lt_of_cell? w _ hx157_2)).trans hx157_2)
        have HR157_2 := Aside0.mk hi157_2
        have HC157_2 := Aside0.mk hl157_2
        clear hi157_2 hl157_2
        replace p157 := eq_true p157
        replace q157 := eq_true q157
        have ea_ := Option.some.inj (hx156_2.symm.trans hx157_2)
        injection ea_ with ea_ en_ ec_
        subst ea_
        subst ec_
        clear en_
        try (have eb_ := Option.some.inj (hx156_2.symm.trans ((HB.out.cell (World.block_lt_of_cell? w _ hw154_2)).trans hw154_2)); injection eb_ with ea_ en_ ec_; subst ea_; subst ec_; clear en_)
        try go_wp2_with (first | ((with_reducible refine gate_callee (f := 45) rfl ?_); refine goesL_ (some 37) rfl rfl Try.func45 (by kernel_rfl) rfl #[.slice A156_2 ((rd_T52 l0 x5_1).f2).length c156_2, .int .i64 (wrap64 ((wrap64 (x1_1 + 1)) + 1))] rfl (by (try simp only [List.map_toArray, List.map_cons, List.map_nil]); first | done | rfl | (simp only [List.length_drop, List.length_take]; rfl)) ?_; (with_reducible refine (laws_heldGenS.calls k1 _ _ ((rd_T52 l0 x5_1).f2) (wrap64 ((wrap64 (x1_1 + 1)) + 1)) t158 _ ?side1 ?side2 A8.out).mono ?_); (case side1 => repeat (first | exact (Kd.C_below HR157_2.out HB.out) | (with_reducible refine Kd.C_alloc ?_ _) | (with_reducible refine Kd.C_drewN ?_ _) | (with_reducible refine Kd.C_drew ?_))); (case side2 => exact HC157_2.out); rintro e w12 ⟨rfl, hb⟩; refine ⟨_, rfl, ?_⟩; have n0_ := Aside0.mk (below_step qB hb); clear HB; have HB := n0_; clear n0_; (try clear hb); (try clear hb2); (try clear hk); (try clear hi)))
        go_ret
        exact ⟨by first | rfl | (simp [errW_none, errW_some] <;> rfl) | (simp [*, errW_none, errW_some] <;> rfl), by repeat (first | (with_reducible first | exact HB.out | apply below_alloc | apply pw_below_drewN | apply below_drew1) | exact HB.out)⟩
       ·rw [if_neg c9] at H
        have c9b0 : decide (t158 < 0) = false := decide_eq_false c9
        clear c9
        have H' := Aside0.mk H
        clear H
        try go_wp2
        have n0_ := Aside0.mk (below_drew1 HB.out)
        clear HB
        have HB := n0_
        clear n0_
        have p154 : 0 ≤ (x5_1 : Int) := of_decide_eq_true (by first | (with_reducible assumption) | assumption)
        have q154 : x5_1 < (l0.length : Int) := of_decide_eq_true (by first | (with_reducible assumption) | assumption)
        obtain ⟨ad154, A154_2, c154_2, e154, hx154_0, hx154_1, hx154_2, hl154_2, hi154_2⟩ := at_T52 HR0.out x5_1 p154 q154
        have hw154_2 := hx154_2
        have hw154_1 := hx154_1
        have hw154_0 := hx154_0
        cases e154
        try (replace hx154_0 := (HB.out.cell (World.block_lt_of_cell? w _ hx154_0)).trans hx154_0)
        try (replace hx154_1 := (HB.out.cell (World.block_lt_of_cell? w _ hx154_1)).trans hx154_1)
        try (replace hx154_2 := (HB.out.cell (World.block_lt_of_cell? w _ hx154_2)).trans hx154_2)
        have HR154_2 := Aside0.mk hi154_2
        have HC154_2 := Aside0.mk hl154_2
        clear hi154_2 hl154_2
        replace p154 := eq_true p154
        replace q154 := eq_true q154
        refine start_ (n := 8) (S := fun w' => w'.cell? (ad154.add ((x5_1).toNat * 3)) = some (.string ((rd_T52 l0 x5_1).f0)) ∧ w'.cell? ⟨(ad154.add ((x5_1).toNat * 3)).block, (ad154.add ((x5_1).toNat * 3)).off + 1, none⟩ = some (.int .i64 ((rd_T52 l0 x5_1).f1)) ∧ w'.cell? ⟨(ad154.add ((x5_1).toNat * 3)).block, (ad154.add ((x5_1).toNat * 3)).off + 2, none⟩ = some (.slice A154_2 ((rd_T52 l0 x5_1).f2).length c154_2)) (ds := []) (tf 8 0) (by kernel_rfl) rfl rfl ⟨((HB.out.cell (World.block_lt_of_cell? w _ hw154_0)).trans hw154_0), ((HB.out.cell (World.block_lt_of_cell? w _ hw154_1)).trans hw154_1), ((HB.out.cell (World.block_lt_of_cell? w _ hw154_2)).trans hw154_2)⟩ (fun hHeld => ?_); refine with_tabW laws_heldProfileS.tab4 laws_heldProfileS.bits4 (fun HT_ HW_ => ?_)
        generalize wr.drew = w13 at HB HR154_2 hx154_0 hx154_1 hx154_2 hHeld ⊢
        refine qA 0 12 (tf 8 1) ?_
        refine qA 1 13 (tf 8 3) ?_
        refine qA 2 14 (tf 8 7) ?_
        refine qA 3 15 (tf 8 15) ?_
        refine qA 5 17 (tf 8 47) ?_
        refine qT 4 16 (tf 8 63) ?_
        refine one_ (i := 6) (N := some 18) (tf 8 127) rfl rfl (one_of HT_.out (by kernel_rfl)) (by decide) (fun K hK => ?_)
        refine goes_ Try.func43 (by kernel_rfl) rfl #[.int .i64 x1_1] (by rfl) rfl rfl (by (try simp only [List.map_toArray, List.map_cons, List.map_nil]); first | done | rfl | (simp only [List.length_drop, List.length_take]; rfl)) ?_
        with_reducible refine (laws_markText.calls k1 x1_1 t155 _ A5.out).mono ?_
        rintro e w14 ⟨rfl, hb⟩
        refine ⟨_, rfl, ?_⟩
        have n0_ := Aside0.mk (below_step qB hb)
        clear HB
        have HB := n0_
        clear n0_
        (try clear hb)
        (try clear hb2)
        (try clear hk)
        (try clear hi)
        refine hK.out _ _ ⟨((HB.out.cell (World.block_lt_of_cell? w _ hw154_0)).trans hw154_0), ((HB.out.cell (World.block_lt_of_cell? w _ hw154_1)).trans hw154_1), ((HB.out.cell (World.block_lt_of_cell? w _ hw154_2)).trans hw154_2)⟩ (fun hHeld => ?_)
        clear hK K
        refine norm_ (a' := ?_) ?_ ?_
        rotate_left
        ·show Act.put _ (some 18) _ = _
         simp only [Act.put, sT, s0, sS, i64_w, i32_w]
         rfl
        refine qA 7 19 (tf 8 255) ?_
        refine done_ (done_of HT_.out (by kernel_rfl)) ?_
        have p156 : 0 ≤ (x5_1 : Int) := of_decide_eq_true (by first | (with_reducible assumption) | assumption)
        have q156 : x5_1 < (l0.length : Int) := of_decide_eq_true (by first | (with_reducible assumption) | assumption)
        obtain ⟨ad156, A156_2, c156_2, e156, hx156_0, hx156_1, hx156_2, hl156_2, hi156_2⟩ := at_T52 HR0.out x5_1 p156 q156
        obtain rfl : ad154 = ad156 := (by injection e156)
        try (replace hx156_0 := (HB.out.cell (World.block_lt_of_cell? w _ hx156_0)).trans hx156_0)
        try (replace hx156_1 := (HB.out.cell (World.block_lt_of_cell? w _ hx156_1)).trans hx156_1)
        try (replace hx156_2 := (HB.out.cell (World.block_lt_of_cell? w _ hx156_2)).trans hx156_2)
        have HR156_2 := Aside0.mk hi156_2
        have HC156_2 := Aside0.mk hl156_2
        clear hi156_2 hl156_2
        replace p156 := eq_true p156
        replace q156 := eq_true q156
        have p157 : 0 ≤ (x5_1 : Int) := of_decide_eq_true (by first | (with_reducible assumption) | assumption)
        have q157 : x5_1 < (l0.length : Int) := of_decide_eq_true (by first | (with_reducible assumption) | assumption)
        obtain ⟨ad157, A157_2, c157_2, e157, hx157_0, hx157_1, hx157_2, hl157_2, hi157_2⟩ := at_T52 HR0.out x5_1 p157 q157
        obtain rfl : ad154 = ad157 := (by injection e157)
        try (replace hx157_0 := (HB.out.cell (World.block_lt_of_cell? w _ hx157_0)).trans hx157_0)
        try (replace hx157_1 := (HB.out.cell (World.block_lt_of_cell? w _ hx157_1)).trans hx157_1)
        try (replace hx157_2 := (HB.out.cell (World.block_lt_of_cell? w _ hx157_2)).trans hx157_2)
        have HR157_2 := Aside0.mk hi157_2
        have HC157_2 := Aside0.mk hl157_2
        clear hi157_2 hl157_2
        replace p157 := eq_true p157
        replace q157 := eq_true q157
        have ea_ := Option.some.inj (hx156_2.symm.trans hx157_2)
        injection ea_ with ea_ en_ ec_
        subst ea_
        subst ec_
        clear en_
        try (have eb_ := Option.some.inj (hx156_2.symm.trans ((HB.out.cell (World.block_lt_of_cell? w _ hw154_2)).trans hw154_2)); injection eb_ with ea_ en_ ec_; subst ea_; subst ec_; clear en_)
        try go_wp2_with (first | ((with_reducible refine gate_callee (f := 45) rfl ?_); refine goesL_ (some 37) rfl rfl Try.func45 (by kernel_rfl) rfl #[.slice A156_2 ((rd_T52 l0 x5_1).f2).length c156_2, .int .i64 (wrap64 ((wrap64 (x1_1 + 1)) + 1))] rfl (by (try simp only [List.map_toArray, List.map_cons, List.map_nil]); first | done | rfl | (simp only [List.length_drop, List.length_take]; rfl)) ?_; (with_reducible refine (laws_heldGenS.calls k1 _ _ ((rd_T52 l0 x5_1).f2) (wrap64 ((wrap64 (x1_1 + 1)) + 1)) t158 _ ?side1 ?side2 A8.out).mono ?_); (case side1 => repeat (first | exact (Kd.C_below HR157_2.out HB.out) | (with_reducible refine Kd.C_alloc ?_ _) | (with_reducible refine Kd.C_drewN ?_ _) | (with_reducible refine Kd.C_drew ?_))); (case side2 => exact HC157_2.out); rintro e w15 ⟨rfl, hb⟩; refine ⟨_, rfl, ?_⟩; have n0_ := Aside0.mk (below_step qB hb); clear HB; have HB := n0_; clear n0_; (try clear hb); (try clear hb2); (try clear hk); (try clear hi)))
        go_roundg k1
        case measure => have := HK1.out; omega
        case rel => exact ⟨(t158), (wrap64 (x5_1 + 1)), (by first | rfl | (simp; done) | (simp [*]; done)), (by first | rfl | (simp; done) | (simp [*]; done)), H', ⟨by have := HK1.out; omega⟩, ⟨by repeat (first | (with_reducible first | exact HB.out | apply below_alloc | apply pw_below_drewN | apply below_drew1) | exact HB.out)⟩⟩
      ·rw [if_neg c7] at H
       have c7b0 : (((rd_T52 l0 x5_1).f1) == (wrap64 (x1_1 + 1))) = false := beq_eq_false_iff_ne.mpr c7
       have c7b1 : (((rd_T52 l0 x5_1).f1) != (wrap64 (x1_1 + 1))) = true := bne_iff_ne.mpr c7
       obtain rfl := Option.some.inj H
       try go_wp2
       have n0_ := Aside0.mk (below_drew1 HB.out)
       clear HB
       have HB := n0_
       clear n0_
       have p154 : 0 ≤ (x5_1 : Int) := of_decide_eq_true (by first | (with_reducible assumption) | assumption)
       have q154 : x5_1 < (l0.length : Int) := of_decide_eq_true (by first | (with_reducible assumption) | assumption)
       obtain ⟨ad154, A154_2, c154_2, e154, hx154_0, hx154_1, hx154_2, hl154_2, hi154_2⟩ := at_T52 HR0.out x5_1 p154 q154
       have hw154_2 := hx154_2
       have hw154_1 := hx154_1
       have hw154_0 := hx154_0
       cases e154
       try (replace hx154_0 := (HB.out.cell (World.block_lt_of_cell? w _ hx154_0)).trans hx154_0)
       try (replace hx154_1 := (HB.out.cell (World.block_lt_of_cell? w _ hx154_1)).trans hx154_1)
       try (replace hx154_2 := (HB.out.cell (World.block_lt_of_cell? w _ hx154_2)).trans hx154_2)
       have HR154_2 := Aside0.mk hi154_2
       have HC154_2 := Aside0.mk hl154_2
       clear hi154_2 hl154_2
       replace p154 := eq_true p154
       replace q154 := eq_true q154
       refine start_ (n := 8) (S := fun w' => w'.cell? (ad154.add ((x5_1).toNat * 3)) = some (.string ((rd_T52 l0 x5_1).f0)) ∧ w'.cell? ⟨(ad154.add ((x5_1).toNat * 3)).block, (ad154.add ((x5_1).toNat * 3)).off + 1, none⟩ = some (.int .i64 ((rd_T52 l0 x5_1).f1)) ∧ w'.cell? ⟨(ad154.add ((x5_1).toNat * 3)).block, (ad154.add ((x5_1).toNat * 3)).off + 2, none⟩ = some (.slice A154_2 ((rd_T52 l0 x5_1).f2).length c154_2)) (ds := []) (tf 8 0) (by kernel_rfl) rfl rfl ⟨((HB.out.cell (World.block_lt_of_cell? w _ hw154_0)).trans hw154_0), ((HB.out.cell (World.block_lt_of_cell? w _ hw154_1)).trans hw154_1), ((HB.out.cell (World.block_lt_of_cell? w _ hw154_2)).trans hw154_2)⟩ (fun hHeld => ?_); refine with_tabW laws_heldProfileS.tab4 laws_heldProfileS.bits4 (fun HT_ HW_ => ?_)
       generalize wr.drew = w16 at HB HR154_2 hx154_0 hx154_1 hx154_2 hHeld ⊢
       refine qA 0 12 (tf 8 1) ?_
       refine qA 1 13 (tf 8 3) ?_
       refine qA 2 14 (tf 8 7) ?_
       refine qA 3 15 (tf 8 15) ?_
       refine qA 5 17 (tf 8 47) ?_
       refine qT 4 16 (tf 8 63) ?_
       refine one_ (i := 6) (N := some 18) (tf 8 127) rfl rfl (one_of HT_.out (by kernel_rfl)) (by decide) (fun K hK => ?_)
       refine goes_ Try.func43 (by kernel_rfl) rfl #[.int .i64 x1_1] (by rfl) rfl rfl (by (try simp only [List.map_toArray, List.map_cons, List.map_nil]); first | done | rfl | (simp only [List.length_drop, List.length_take]; rfl)) ?_
       with_reducible refine (laws_markText.calls k1 x1_1 t155 _ A5.out).mono ?_
       rintro e w17 ⟨rfl, hb⟩
       refine ⟨_, rfl, ?_⟩
       have n0_ := Aside0.mk (below_step qB hb)
       clear HB
       have HB := n0_
       clear n0_
       (try clear hb)
       (try clear hb2)
       (try clear hk)
       (try clear hi)
       refine hK.out _ _ ⟨((HB.out.cell (World.block_lt_of_cell? w _ hw154_0)).trans hw154_0), ((HB.out.cell (World.block_lt_of_cell? w _ hw154_1)).trans hw154_1), ((HB.out.cell (World.block_lt_of_cell? w _ hw154_2)).trans hw154_2)⟩ (fun hHeld => ?_)
       clear hK K
       refine norm_ (a' := ?_) ?_ ?_
       rotate_left
       ·show Act.put _ (some 18) _ = _
        simp only [Act.put, sT, s0, sS, i64_w, i32_w]
        rfl
       refine qA 7 19 (tf 8 255) ?_
       refine done_ (done_of HT_.out (by kernel_rfl)) ?_
       have p156 : 0 ≤ (x5_1 : Int) := of_decide_eq_true (by first | (with_reducible assumption) | assumption)
       have q156 : x5_1 < (l0.length : Int) := of_decide_eq_true (by first | (with_reducible assumption) | assumption)
       obtain ⟨ad156, A156_2, c156_2, e156, hx156_0, hx156_1, hx156_2, hl156_2, hi156_2⟩ := at_T52 HR0.out x5_1 p156 q156
       obtain rfl : ad154 = ad156 := (by injection e156)
       try (replace hx156_0 := (HB.out.cell (World.block_lt_of_cell? w _ hx156_0)).trans hx156_0)
       try (replace hx156_1 := (HB.out.cell (World.block_lt_of_cell? w _ hx156_1)).trans hx156_1)
       try (replace hx156_2 := (HB.out.cell (World.block_lt_of_cell? w _ hx156_2)).trans hx156_2)
       have HR156_2 := Aside0.mk hi156_2
       have HC156_2 := Aside0.mk hl156_2
       clear hi156_2 hl156_2
       replace p156 := eq_true p156
       replace q156 := eq_true q156
       try go_wp2
       go_ret
       exact ⟨by first | rfl | (simp [errW_none, errW_some] <;> rfl) | (simp [*, errW_none, errW_some] <;> rfl), by repeat (first | (with_reducible first | exact HB.out | apply below_alloc | apply pw_below_drewN | apply below_drew1) | exact HB.out)⟩
     ·rw [if_neg c6] at H
      have c6b0 : (((rd_T52 l0 x5_1).f0).toList == t155.toList) = false := beq_eq_false_iff_ne.mpr c6
      have c6b1 : (((rd_T52 l0 x5_1).f0).toList != t155.toList) = true := bne_iff_ne.mpr c6
      obtain rfl := Option.some.inj H
      try go_wp2
      have n0_ := Aside0.mk (below_drew1 HB.out)
      clear HB
      have HB := n0_
      clear n0_
      have p154 : 0 ≤ (x5_1 : Int) := of_decide_eq_true (by first | (with_reducible assumption) | assumption)
      have q154 : x5_1 < (l0.length : Int) := of_decide_eq_true (by first | (with_reducible assumption) | assumption)
      obtain ⟨ad154, A154_2, c154_2, e154, hx154_0, hx154_1, hx154_2, hl154_2, hi154_2⟩ := at_T52 HR0.out x5_1 p154 q154
      have hw154_2 := hx154_2
      have hw154_1 := hx154_1
      have hw154_0 := hx154_0
      cases e154
      try (replace hx154_0 := (HB.out.cell (World.block_lt_of_cell? w _ hx154_0)).trans hx154_0)
      try (replace hx154_1 := (HB.out.cell (World.block_lt_of_cell? w _ hx154_1)).trans hx154_1)
      try (replace hx154_2 := (HB.out.cell (World.block_lt_of_cell? w _ hx154_2)).trans hx154_2)
      have HR154_2 := Aside0.mk hi154_2
      have HC154_2 := Aside0.mk hl154_2
      clear hi154_2 hl154_2
      replace p154 := eq_true p154
      replace q154 := eq_true q154
      refine start_ (n := 8) (S := fun w' => w'.cell? (ad154.add ((x5_1).toNat * 3)) = some (.string ((rd_T52 l0 x5_1).f0)) ∧ w'.cell? ⟨(ad154.add ((x5_1).toNat * 3)).block, (ad154.add ((x5_1).toNat * 3)).off + 1, none⟩ = some (.int .i64 ((rd_T52 l0 x5_1).f1)) ∧ w'.cell? ⟨(ad154.add ((x5_1).toNat * 3)).block, (ad154.add ((x5_1).toNat * 3)).off + 2, none⟩ = some (.slice A154_2 ((rd_T52 l0 x5_1).f2).length c154_2)) (ds := []) (tf 8 0) (by kernel_rfl) rfl rfl ⟨((HB.out.cell (World.block_lt_of_cell? w _ hw154_0)).trans hw154_0), ((HB.out.cell (World.block_lt_of_cell? w _ hw154_1)).trans hw154_1), ((HB.out.cell (World.block_lt_of_cell? w _ hw154_2)).trans hw154_2)⟩ (fun hHeld => ?_); refine with_tabW laws_heldProfileS.tab4 laws_heldProfileS.bits4 (fun HT_ HW_ => ?_)
      generalize wr.drew = w18 at HB HR154_2 hx154_0 hx154_1 hx154_2 hHeld ⊢
      refine qA 0 12 (tf 8 1) ?_
      refine qA 1 13 (tf 8 3) ?_
      refine qA 2 14 (tf 8 7) ?_
      refine qA 3 15 (tf 8 15) ?_
      refine qA 5 17 (tf 8 47) ?_
      refine qT 4 16 (tf 8 63) ?_
      refine one_ (i := 6) (N := some 18) (tf 8 127) rfl rfl (one_of HT_.out (by kernel_rfl)) (by decide) (fun K hK => ?_)
      refine goes_ Try.func43 (by kernel_rfl) rfl #[.int .i64 x1_1] (by rfl) rfl rfl (by (try simp only [List.map_toArray, List.map_cons, List.map_nil]); first | done | rfl | (simp only [List.length_drop, List.length_take]; rfl)) ?_
      with_reducible refine (laws_markText.calls k1 x1_1 t155 _ A5.out).mono ?_
      rintro e w19 ⟨rfl, hb⟩
      refine ⟨_, rfl, ?_⟩
      have n0_ := Aside0.mk (below_step qB hb)
      clear HB
      have HB := n0_
      clear n0_
      (try clear hb)
      (try clear hb2)
      (try clear hk)
      (try clear hi)
      refine hK.out _ _ ⟨((HB.out.cell (World.block_lt_of_cell? w _ hw154_0)).trans hw154_0), ((HB.out.cell (World.block_lt_of_cell? w _ hw154_1)).trans hw154_1), ((HB.out.cell (World.block_lt_of_cell? w _ hw154_2)).trans hw154_2)⟩ (fun hHeld => ?_)
      clear hK K
      refine norm_ (a' := ?_) ?_ ?_
      rotate_left
      ·show Act.put _ (some 18) _ = _
       simp only [Act.put, sT, s0, sS, i64_w, i32_w]
       rfl
      refine qA 7 19 (tf 8 255) ?_
      refine done_ (done_of HT_.out (by kernel_rfl)) ?_
      try go_wp2
      go_ret
      exact ⟨by first | rfl | (simp [errW_none, errW_some] <;> rfl) | (simp [*, errW_none, errW_some] <;> rfl), by repeat (first | (with_reducible first | exact HB.out | apply below_alloc | apply pw_below_drewN | apply below_drew1) | exact HB.out)⟩
    ·rw [if_neg c4] at H
     exact absurd H (by simp)
   ·rw [if_neg c3] at H
    have c3b0 : decide (x5_1 < (l0.length : Int)) = false := decide_eq_false c3
    clear c3
    obtain rfl := Option.some.inj H
    go_wp2
    go_ret
    exact ⟨by first | rfl | (simp [errW_none, errW_some] <;> rfl) | (simp [*, errW_none, errW_some] <;> rfl), by repeat (first | (with_reducible first | exact HB.out | apply below_alloc | apply pw_below_drewN | apply below_drew1) | exact HB.out)⟩

/-! ### spec_l1Letter: function 54 -/
def spec_l1Letter.f (a0 : Int) : Option (Bool) := if a0 ≥ 97 then (if a0 ≤ 122 then (some true) else (if a0 ≥ 65 then (some (decide (a0 ≤ 90))) else (some false))) else (if a0 ≥ 65 then (some (decide (a0 ≤ 90))) else (some false))
set_option maxHeartbeats 8000000 in
set_option maxRecDepth 100000 in
theorem spec_l1Letter.calls (a0 : Int) (r : Bool) (w : World) (h : spec_l1Letter.f a0 = some r) :
  Calls Try.prog 54 #[.int .u8 a0] w fun e w' => e = .returned (.bool r) ∧ Drawn0 w w' := by
 have H : (if a0 ≥ 97 then (if a0 ≤ 122 then (some true) else (if a0 ≥ 65 then (some (decide (a0 ≤ 90))) else (some false))) else (if a0 ≥ 65 then (some (decide (a0 ≤ 90))) else (some false))) = some r := h
 clear h
 by_cases c2 : a0 ≥ 97
 ·rw [if_pos c2] at H
  have c2b0 : decide (97 ≤ a0) = true := decide_eq_true c2
  clear c2
  by_cases c3 : a0 ≤ 122
  ·rw [if_pos c3] at H
   have c3b0 : decide (a0 ≤ 122) = true := decide_eq_true c3
   clear c3
   obtain rfl := Option.some.inj H
   go_enter Try.func54, Try.ntmps54
   go_wp2
   go_ret
   exact ⟨by first | rfl | (simp; done) | (simp [*]; done), by repeat (first | exact Drawn0.refl _ | apply Drawn0.step)⟩
  ·rw [if_neg c3] at H
   have c3b0 : decide (a0 ≤ 122) = false := decide_eq_false c3
   clear c3
   by_cases c4 : a0 ≥ 65
   ·rw [if_pos c4] at H
    have c4b0 : decide (65 ≤ a0) = true := decide_eq_true c4
    clear c4
    obtain rfl := Option.some.inj H
    go_enter Try.func54, Try.ntmps54
    go_wp2
    go_ret
    exact ⟨by first | rfl | (simp; done) | (simp [*]; done), by repeat (first | exact Drawn0.refl _ | apply Drawn0.step)⟩
   ·rw [if_neg c4] at H
    have c4b0 : decide (65 ≤ a0) = false := decide_eq_false c4
    clear c4
    obtain rfl := Option.some.inj H
    go_enter Try.func54, Try.ntmps54
    go_wp2
    go_ret
    exact ⟨by first | rfl | (simp; done) | (simp [*]; done), by repeat (first | exact Drawn0.refl _ | apply Drawn0.step)⟩
 ·rw [if_neg c2] at H
  have c2b0 : decide (97 ≤ a0) = false := decide_eq_false c2
  clear c2
  by_cases c5 : a0 ≥ 65
  ·rw [if_pos c5] at H
   have c5b0 : decide (65 ≤ a0) = true := decide_eq_true c5
   clear c5
   obtain rfl := Option.some.inj H
   go_enter Try.func54, Try.ntmps54
   go_wp2
   go_ret
   exact ⟨by first | rfl | (simp; done) | (simp [*]; done), by repeat (first | exact Drawn0.refl _ | apply Drawn0.step)⟩
  ·rw [if_neg c5] at H
   have c5b0 : decide (65 ≤ a0) = false := decide_eq_false c5
   clear c5
   obtain rfl := Option.some.inj H
   go_enter Try.func54, Try.ntmps54
   go_wp2
   go_ret
   exact ⟨by first | rfl | (simp; done) | (simp [*]; done), by repeat (first | exact Drawn0.refl _ | apply Drawn0.step)⟩

/-! ### spec_l1Digit: function 55 -/
def spec_l1Digit.f (a0 : Int) : Option (Bool) := if a0 ≥ 48 then (some (decide (a0 ≤ 57))) else (some false)
set_option maxHeartbeats 8000000 in
set_option maxRecDepth 100000 in
theorem spec_l1Digit.calls (a0 : Int) (r : Bool) (w : World) (h : spec_l1Digit.f a0 = some r) :
  Calls Try.prog 55 #[.int .u8 a0] w fun e w' => e = .returned (.bool r) ∧ Drawn0 w w' := by
 have H : (if a0 ≥ 48 then (some (decide (a0 ≤ 57))) else (some false)) = some r := h
 clear h
 by_cases c2 : a0 ≥ 48
 ·rw [if_pos c2] at H
  have c2b0 : decide (48 ≤ a0) = true := decide_eq_true c2
  clear c2
  obtain rfl := Option.some.inj H
  go_enter Try.func55, Try.ntmps55
  go_wp2
  go_ret
  exact ⟨by first | rfl | (simp; done) | (simp [*]; done), by repeat (first | exact Drawn0.refl _ | apply Drawn0.step)⟩
 ·rw [if_neg c2] at H
  have c2b0 : decide (48 ≤ a0) = false := decide_eq_false c2
  clear c2
  obtain rfl := Option.some.inj H
  go_enter Try.func55, Try.ntmps55
  go_wp2
  go_ret
  exact ⟨by first | rfl | (simp; done) | (simp [*]; done), by repeat (first | exact Drawn0.refl _ | apply Drawn0.step)⟩

end Go.Proofs.Ytbgnjnlecpdfaaa.PFnExactSwitch
