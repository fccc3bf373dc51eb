-- Laid by a program of this session: a turned copy of the kit's print, with contracts by hand beside.
import Derived.Test.YtnahkojlamficaaPFnExactFailingx0
import Derived.Test.YtnahkojlamficaaPFnExactFailingx1
import Derived.Test.YtnahkojlamficaaPFnExactFailingx2
import Derived.Test.YtnahkojlamficaaPFnExactFailingx3
import Derived.Test.YtnahkojlamficaaPFnExactFailingx7
import Derived.Test.YtnahkojlamficaaPFnExactFailingx11
namespace Go.Proofs.Ytnahkojlamficaa.PFnExactFailing
open Go.RowKit Go.Proofs.YtnahkojlamficaaW.PrintWords Go.Proofs.YtnahkojlamficaaW.PrintLast Go.Proofs.YtnahkojlamficaaW.PrintMore
attribute [local go_sem] max2_int min2_int max_two min_two max_three min_three max_four min_four   -- for this text's walks alone
set_option linter.unusedVariables false
set_option linter.unusedSimpArgs false

/-! ### laws_markUnitS: function 30 -/
def softS : Nat → Nat → Int → Int → Option Int
  | 0, _, _, _ => none
  | k + 1, n, x1, x5 => if x5 < (n : Int) then (if 0 ≤ x5 then ((laws_markText.f k x1).bind fun _ => softS k n (wrap64 (x1 + 1)) (wrap64 (x5 + 1))) else none) else some x1
set_option maxHeartbeats 8000000 in
set_option maxRecDepth 100000 in
theorem markStringS_soft (k n : Nat) (A : Option Addr) (c : Nat) (P0_ : Nat → Prop) (a1 r1 : Int) (w0 w : World) (hB : Below w0.heap.size w0 w) (hv : StrV w w0.heap.size P0_ (.slice A n c) n) (h : softS k n a1 0 = some r1) :
    Calls Try.prog 25 #[.slice A n c, .int .i64 a1] w fun e w' => e = .returned (.int .i64 r1) ∧ Soft w w' ∧ Below w0.heap.size w0 w' ∧ Kept w w' P0_ := by
  have HV := Aside0.mk hv
  have HS := Aside0.mk (Soft.refl w)
  have HK := Aside0.mk (Kept.refl w P0_)
  have HB := Aside0.mk hB
  have H' := Aside0.mk h
  clear hB hv h
  go_enter Try.func25, Try.ntmps25
  go_wp2
  go_loopg [1, 5] k (fun kq v1 v5 w' => ∃ (x1_1 : Int) (x5_1 : Int), v1 = .int .i64 x1_1 ∧ v5 = .int .i64 x5_1 ∧ Aside0 (softS kq n x1_1 x5_1 = some r1) ∧ Aside0 (kq ≤ k) ∧ Aside0 (Soft w w') ∧ Aside0 (Kept w w' P0_) ∧ Aside0 (Below w0.heap.size w0 w'))
  case atStart => exact ⟨a1, 0, rfl, rfl, H', ⟨Nat.le_refl _⟩, HS, HK, HB⟩
  case round =>
    clear H' HB HS HK
    obtain ⟨x1_1, x5_1, rfl, rfl, HA, HK1, HS, HK, HB⟩ := hrel
    cases gk with
    | zero => exact absurd HA.out (by simp [softS])
    | succ k1 =>
      have H := HA.out
      clear HA
      simp only [softS] at H
      by_cases c3 : x5_1 < (n : Int)
      · rw [if_pos c3] at H
        have c3b0 : decide (x5_1 < (n : Int)) = true := decide_eq_true c3
        by_cases c4 : 0 ≤ x5_1
        · rw [if_pos c4] at H
          have c4b0 : decide (0 ≤ x5_1) = true := decide_eq_true c4
          replace H := Option.bind_eq_some_iff.mp H
          obtain ⟨t0, E0, H⟩ := H
          have T0 := Aside0.mk E0
          have H' := Aside0.mk H
          clear E0 H
          obtain ⟨A_, c_, e_, hz_⟩ := HV.out
          injection e_ with e1_ e2_ e3_
          subst e1_
          subst e3_
          rcases hz_ with hz_ | ⟨go5, ea_, hP_, hg_, hs_⟩
          · omega
          subst ea_
          have GP5 := Aside0.mk hP_
          have GB5 := Aside0.mk hg_
          have GS5 := Aside0.mk hs_
          clear hP_ hg_ hs_ e2_
          have p5 := Aside0.mk c4
          have q5 := Aside0.mk c3
          clear c3 c4
          replace c4b1 := eq_true p5.out
          replace c3b1 := eq_true q5.out
          have c3b2 : (0 ≤ x5_1) = True := eq_true p5.out
          go_wp2_with (first | (go_at_call 59; (with_reducible refine (laws_markText.calls (w := _) (h := T0.out)).mono ?_); rintro e wa1 ⟨rfl, hb⟩; have n1_ := Aside0.mk (HS.out.trans (Soft.of_below hb)); have n2_ := Aside0.mk (Kept.below HK.out hb); have n3_ := Aside0.mk (below_step HB.out hb); clear HS HK HB hb; have HS := n1_; have HK := n2_; have HB := n3_; clear n1_ n2_ n3_; obtain ⟨cs_, hcs_, hst_⟩ := HS.out.str _ _ GS5.out; obtain ⟨s_, hs_⟩ := hst_ x5_1.toNat (by have := q5.out; have := p5.out; omega); have hx_0 : wa1.cell? ⟨go5, x5_1.toNat, none⟩ = some (.string s_) := (blk_cell hcs_ _).trans hs_; have hf_0 : wa1.frozen? ⟨go5, x5_1.toNat, none⟩ = false := blk_frozen hcs_ _; have HC := Aside0.mk hcs_; clear hs_ hcs_ hst_) | ((with_reducible refine gate_store (t := 9) (p := 16) rfl ?_); refine store_event (t := 9) (p := 16) (v := ?vo_wa2) (w1 := (wa1.setCell ⟨go5, x5_1.toNat, none⟩ (.string t0))) ?hg ?ho ?hn ?hr ?_; (case ho => rfl); (case hg => rfl); (case hn => rfl); (case hr => first | (go_simp; done) | (go_simp; rfl)); intro wa2 hw; have n1_ := Aside0.mk (show Soft w wa2 by rw [hw]; exact HS.out.trans (Soft.put HC.out t0)); have n2_ := Aside0.mk (show Kept w wa2 P0_ by rw [hw]; exact HK.out.setCell (.inl GP5.out) _); have n3_ := Aside0.mk (show Below w0.heap.size w0 wa2 by rw [hw]; exact below_set HB.out GB5.out); clear HS HK HB hw hx_0 hf_0 HC; have HS := n1_; have HK := n2_; have HB := n3_; clear n1_ n2_ n3_))
          go_roundg k1
          case measure => have := HK1.out; omega
          case rel => exact ⟨_, _, rfl, rfl, H', ⟨by have := HK1.out; omega⟩, HS, HK, HB⟩
        · rw [if_neg c4] at H
          exact absurd H (by simp)
      · rw [if_neg c3] at H
        have c3b0 : decide (x5_1 < (n : Int)) = false := decide_eq_false c3
        clear c3
        obtain rfl := Option.some.inj H
        go_wp2
        go_ret
        exact ⟨rfl, HS.out, HB.out, HK.out⟩
def laws_markUnitS.l0 : Nat → List S55 → Int → Int → Option Int
  | 0, _, _, _ => none
  | k + 1, x0, x1, x5 => if x5 < (x0.length : Int) then (if 0 ≤ x5 then ((laws_markText.f k x1).bind fun _ => (softS k (rd_T55 x0 x5).f1.length (wrap64 (x1 + 1)) 0).bind fun b1 => (softS k (rd_T55 x0 x5).f2.length b1 0).bind fun b2 => (laws_markText.f k b2).bind fun _ => laws_markUnitS.l0 k x0 (wrap64 (wrap64 (b2 + 1) + 1)) (wrap64 (x5 + 1))) else none) else some x1
def laws_markUnitS.f (k : Nat) (l0 : List S55) (a1 : Int) : Option Int := laws_markUnitS.l0 k l0 a1 0
def lensU (l : List S55) (j : Nat) : Nat × Nat := ((rd_T55 l (j : Int)).f1.length, (rd_T55 l (j : Int)).f2.length)
theorem units_soft {w : World} {B : Nat} {P : Nat → Prop} {v : Value} {l : List S55} (h : Kd.R k55 55 w B P v l) : ∃ A c, v = .slice A l.length c ∧ (l.length = 0 ∨ ∃ g, A = some ⟨g, 0, none⟩ ∧ UnB w B P 55 g l.length (lensU l)) := by
  obtain ⟨A, c, e⟩ := Kd.R_slice h
  subst e
  refine ⟨A, c, rfl, ?_⟩
  by_cases hz : l.length = 0
  · exact .inl hz
  refine .inr ?_
  obtain ⟨g, cap, e, hb, _, cells, hc⟩ := Kd.R_form h (by omega)
  injection e with e1 e2 e3
  subst e1
  refine ⟨g, rfl, h.1 g rfl, hb, cells, hc, fun j hj => ?_⟩
  obtain ⟨c, hl, hM, hx, _⟩ := Kd.R_elem h z55 (j : Int) (by omega) (by omega)
  obtain ⟨v1, v2, rfl, g1, g2⟩ := k55_openM hM
  have hx' : ∀ p u, ([.string ((l.getD j z55).f0), v1, v2, .string ((l.getD j z55).f3), .bool ((l.getD j z55).f4)] : List Value)[p]? = some u → cells[j * 5 + p]? = some u := fun p u e => by
    rw [← blk_cell hc]
    exact hx p u e
  refine ⟨(Array.getElem?_eq_some_iff.1 (hx' 4 _ rfl)).1, v1, v2, hx' 1 _ rfl, hx' 2 _ rfl, ?_, ?_⟩
  · exact StrV.of_R g1 (fun _ hk => hk.1)
  · exact StrV.of_R g2 (fun _ hk => hk.1)
set_option maxHeartbeats 8000000 in
set_option maxRecDepth 100000 in
theorem laws_markUnitS.calls (k : Nat) (P0_ : Nat → Prop) (u9000_ : Value) (l0 : List S55) (a1 : Int) (r1 : Int) (w0 w : World) (hB : Below w0.heap.size w0 w) (ho0 : Kd.S k55 55 w w0.heap.size P0_ u9000_ l0) (h : laws_markUnitS.f k l0 a1 = some r1) :
    Calls Try.prog 30 #[u9000_, .int .i64 a1] w fun e w' => e = .returned (.int .i64 r1) ∧ Below w0.heap.size w0 w' ∧ Kept w w' P0_ := by
  obtain ⟨A, c, e9, hu⟩ := units_soft (Kd.S_R ho0)
  subst e9
  have HU := Aside0.mk hu
  have HK := Aside0.mk (Kept.refl w P0_)
  have HB := Aside0.mk hB
  have H' := Aside0.mk (show laws_markUnitS.l0 k l0 a1 0 = some r1 from h)
  clear hB ho0 hu h
  go_enter Try.func30, Try.ntmps30
  go_wp2
  go_loopg [1, 5] k (fun kq v1 v5 w' => ∃ (x1_1 : Int) (x5_1 : Int), v1 = .int .i64 x1_1 ∧ v5 = .int .i64 x5_1 ∧ Aside0 (laws_markUnitS.l0 kq l0 x1_1 x5_1 = some r1) ∧ Aside0 (kq ≤ k) ∧ Aside0 (l0.length = 0 ∨ ∃ g, A = some ⟨g, 0, none⟩ ∧ UnB w' w0.heap.size P0_ 55 g l0.length (lensU l0)) ∧ Aside0 (Kept w w' P0_) ∧ Aside0 (Below w0.heap.size w0 w'))
  case atStart => exact ⟨a1, 0, rfl, rfl, H', ⟨Nat.le_refl _⟩, HU, HK, HB⟩
  case round =>
    clear H' HB HU HK
    obtain ⟨x1_1, x5_1, rfl, rfl, HA, HK1, HU, HK, HB⟩ := hrel
    cases gk with
    | zero => exact absurd HA.out (by simp [laws_markUnitS.l0])
    | succ k1 =>
      have H := HA.out
      clear HA
      simp only [laws_markUnitS.l0] at H
      by_cases c3 : x5_1 < (l0.length : Int)
      · rw [if_pos c3] at H
        have c3b0 : decide (x5_1 < (l0.length : Int)) = true := decide_eq_true c3
        by_cases c4 : 0 ≤ x5_1
        · rw [if_pos c4] at H
          have c4b0 : decide (0 ≤ x5_1) = true := decide_eq_true c4
          replace H := Option.bind_eq_some_iff.mp H
          obtain ⟨t0, E0, H⟩ := H
          have T0 := Aside0.mk E0
          clear E0
          replace H := Option.bind_eq_some_iff.mp H
          obtain ⟨b1, E0, H⟩ := H
          have T1 := Aside0.mk E0
          clear E0
          replace H := Option.bind_eq_some_iff.mp H
          obtain ⟨b2, E0, H⟩ := H
          have T2 := Aside0.mk E0
          clear E0
          replace H := Option.bind_eq_some_iff.mp H
          obtain ⟨t3, E0, H⟩ := H
          have T3 := Aside0.mk E0
          have H' := Aside0.mk H
          clear E0 H
          rcases HU.out with hz_ | ⟨go5, ea_, hU_⟩
          · omega
          subst ea_
          clear HU
          have HU := Aside0.mk hU_
          have GP5 := Aside0.mk hU_.1
          have GB5 := Aside0.mk hU_.2.1
          clear hU_
          have p5 := Aside0.mk c4
          have q5 := Aside0.mk (show x5_1.toNat < l0.length by omega)
          have NN : ∀ j : Nat, j = x5_1.toNat → lensU l0 j = ((rd_T55 l0 x5_1).f1.length, (rd_T55 l0 x5_1).f2.length) := fun j hj => by
            unfold lensU
            rw [hj, Int.toNat_of_nonneg p5.out]
          have HN := Aside0.mk (NN _ rfl)
          clear NN
          replace c4b1 := eq_true c4
          replace c3b1 := eq_true c3
          clear c3 c4
          go_wp2_with (first | (go_at_call 59; (with_reducible refine (laws_markText.calls (w := _) (h := T0.out)).mono ?_); rintro e wa1 ⟨rfl, hb⟩; have n1_ := Aside0.mk (HU.out.soft (by decide) (Soft.of_below hb)); have n2_ := Aside0.mk (Kept.below HK.out hb); have n3_ := Aside0.mk (below_step HB.out hb); clear HU HK HB hb; have HU := n1_; have HK := n2_; have HB := n3_; clear n1_ n2_ n3_; (try clear hx_0 hx_1 hx_2 hx_3 hx_4 hf_0 hf_1 hf_2 hf_3 hf_4 HV1 HV2); obtain ⟨u0_1, A1_1, c1_1, A2_1, c2_1, u3_1, u4_1, hx_0, hx_1, hx_2, hx_3, hx_4, hf_, hv1_, hv2_⟩ := HU.out.at_ x5_1.toNat q5.out; rw [HN.out] at hx_1 hx_2 hv1_ hv2_; dsimp only at hx_1 hx_2 hv1_ hv2_; have HV1 := Aside0.mk hv1_; have HV2 := Aside0.mk hv2_; have hf_0 := hf_ (x5_1.toNat * 5); have hf_1 := hf_ (x5_1.toNat * 5 + 1); have hf_2 := hf_ (x5_1.toNat * 5 + 2); have hf_3 := hf_ (x5_1.toNat * 5 + 3); have hf_4 := hf_ (x5_1.toNat * 5 + 4); clear hv1_ hv2_ hf_) | ((with_reducible refine gate_store (t := 9) (p := 17) rfl ?_); refine store_event (t := 9) (p := 17) (v := ?vo_wa2) (w1 := (wa1.setCell ⟨go5, x5_1.toNat * 5, none⟩ (.string t0))) ?hg ?ho ?hn ?hr ?_; (case ho => rfl); (case hg => rfl); (case hn => rfl); (case hr => first | (go_simp; done) | (go_simp; rfl)); intro wa2 hw; have n1_ := Aside0.mk (show UnB wa2 w0.heap.size P0_ 55 go5 l0.length (lensU l0) by rw [hw]; exact HU.out.put (by decide) x5_1.toNat 0 (by decide) (.string t0)); have n2_ := Aside0.mk (show Kept w wa2 P0_ by rw [hw]; exact HK.out.setCell (.inl GP5.out) _); have n3_ := Aside0.mk (show Below w0.heap.size w0 wa2 by rw [hw]; exact below_set HB.out GB5.out); clear HU HK HB hw; have HU := n1_; have HK := n2_; have HB := n3_; clear n1_ n2_ n3_; (try clear hx_0 hx_1 hx_2 hx_3 hx_4 hf_0 hf_1 hf_2 hf_3 hf_4 HV1 HV2); obtain ⟨u0_2, A1_2, c1_2, A2_2, c2_2, u3_2, u4_2, hx_0, hx_1, hx_2, hx_3, hx_4, hf_, hv1_, hv2_⟩ := HU.out.at_ x5_1.toNat q5.out; rw [HN.out] at hx_1 hx_2 hv1_ hv2_; dsimp only at hx_1 hx_2 hv1_ hv2_; have HV1 := Aside0.mk hv1_; have HV2 := Aside0.mk hv2_; have hf_0 := hf_ (x5_1.toNat * 5); have hf_1 := hf_ (x5_1.toNat * 5 + 1); have hf_2 := hf_ (x5_1.toNat * 5 + 2); have hf_3 := hf_ (x5_1.toNat * 5 + 3); have hf_4 := hf_ (x5_1.toNat * 5 + 4); clear hv1_ hv2_ hf_) | (go_at_call 25; (with_reducible refine (markStringS_soft _ _ _ _ P0_ _ _ w0 _ HB.out HV1.out T1.out).mono ?_); rintro e wa3 ⟨rfl, hs_, hb_, hk_⟩; have n1_ := Aside0.mk (HU.out.soft (by decide) hs_); have n2_ := Aside0.mk (Kept.then_ (S := P0_) HK.out hk_ (fun _ h_ => .inl h_)); have n3_ := Aside0.mk hb_; clear HU HK HB hs_ hk_ hb_; have HU := n1_; have HK := n2_; have HB := n3_; clear n1_ n2_ n3_; (try clear hx_0 hx_1 hx_2 hx_3 hx_4 hf_0 hf_1 hf_2 hf_3 hf_4 HV1 HV2); obtain ⟨u0_3, A1_3, c1_3, A2_3, c2_3, u3_3, u4_3, hx_0, hx_1, hx_2, hx_3, hx_4, hf_, hv1_, hv2_⟩ := HU.out.at_ x5_1.toNat q5.out; rw [HN.out] at hx_1 hx_2 hv1_ hv2_; dsimp only at hx_1 hx_2 hv1_ hv2_; have HV1 := Aside0.mk hv1_; have HV2 := Aside0.mk hv2_; have hf_0 := hf_ (x5_1.toNat * 5); have hf_1 := hf_ (x5_1.toNat * 5 + 1); have hf_2 := hf_ (x5_1.toNat * 5 + 2); have hf_3 := hf_ (x5_1.toNat * 5 + 3); have hf_4 := hf_ (x5_1.toNat * 5 + 4); clear hv1_ hv2_ hf_) | (go_at_call 25; (with_reducible refine (markStringS_soft _ _ _ _ P0_ _ _ w0 _ HB.out HV2.out T2.out).mono ?_); rintro e wa4 ⟨rfl, hs_, hb_, hk_⟩; have n1_ := Aside0.mk (HU.out.soft (by decide) hs_); have n2_ := Aside0.mk (Kept.then_ (S := P0_) HK.out hk_ (fun _ h_ => .inl h_)); have n3_ := Aside0.mk hb_; clear HU HK HB hs_ hk_ hb_; have HU := n1_; have HK := n2_; have HB := n3_; clear n1_ n2_ n3_; (try clear hx_0 hx_1 hx_2 hx_3 hx_4 hf_0 hf_1 hf_2 hf_3 hf_4 HV1 HV2); obtain ⟨u0_4, A1_4, c1_4, A2_4, c2_4, u3_4, u4_4, hx_0, hx_1, hx_2, hx_3, hx_4, hf_, hv1_, hv2_⟩ := HU.out.at_ x5_1.toNat q5.out; rw [HN.out] at hx_1 hx_2 hv1_ hv2_; dsimp only at hx_1 hx_2 hv1_ hv2_; have HV1 := Aside0.mk hv1_; have HV2 := Aside0.mk hv2_; have hf_0 := hf_ (x5_1.toNat * 5); have hf_1 := hf_ (x5_1.toNat * 5 + 1); have hf_2 := hf_ (x5_1.toNat * 5 + 2); have hf_3 := hf_ (x5_1.toNat * 5 + 3); have hf_4 := hf_ (x5_1.toNat * 5 + 4); clear hv1_ hv2_ hf_) | (go_at_call 59; (with_reducible refine (laws_markText.calls (w := _) (h := T3.out)).mono ?_); rintro e wa5 ⟨rfl, hb⟩; have n1_ := Aside0.mk (HU.out.soft (by decide) (Soft.of_below hb)); have n2_ := Aside0.mk (Kept.below HK.out hb); have n3_ := Aside0.mk (below_step HB.out hb); clear HU HK HB hb; have HU := n1_; have HK := n2_; have HB := n3_; clear n1_ n2_ n3_; (try clear hx_0 hx_1 hx_2 hx_3 hx_4 hf_0 hf_1 hf_2 hf_3 hf_4 HV1 HV2); obtain ⟨u0_5, A1_5, c1_5, A2_5, c2_5, u3_5, u4_5, hx_0, hx_1, hx_2, hx_3, hx_4, hf_, hv1_, hv2_⟩ := HU.out.at_ x5_1.toNat q5.out; rw [HN.out] at hx_1 hx_2 hv1_ hv2_; dsimp only at hx_1 hx_2 hv1_ hv2_; have HV1 := Aside0.mk hv1_; have HV2 := Aside0.mk hv2_; have hf_0 := hf_ (x5_1.toNat * 5); have hf_1 := hf_ (x5_1.toNat * 5 + 1); have hf_2 := hf_ (x5_1.toNat * 5 + 2); have hf_3 := hf_ (x5_1.toNat * 5 + 3); have hf_4 := hf_ (x5_1.toNat * 5 + 4); clear hv1_ hv2_ hf_) | ((with_reducible refine gate_store (t := 9) (p := 39) rfl ?_); refine store_event (t := 9) (p := 39) (v := ?vo_wa6) (w1 := (wa5.setCell ⟨go5, x5_1.toNat * 5 + 3, none⟩ (.string t3))) ?hg ?ho ?hn ?hr ?_; (case ho => rfl); (case hg => rfl); (case hn => rfl); (case hr => first | (go_simp; done) | (go_simp; rfl)); intro wa6 hw; have n1_ := Aside0.mk (show UnB wa6 w0.heap.size P0_ 55 go5 l0.length (lensU l0) by rw [hw]; exact HU.out.put (by decide) x5_1.toNat 3 (by decide) (.string t3)); have n2_ := Aside0.mk (show Kept w wa6 P0_ by rw [hw]; exact HK.out.setCell (.inl GP5.out) _); have n3_ := Aside0.mk (show Below w0.heap.size w0 wa6 by rw [hw]; exact below_set HB.out GB5.out); clear HU HK HB hw; have HU := n1_; have HK := n2_; have HB := n3_; clear n1_ n2_ n3_; (try clear hx_0 hx_1 hx_2 hx_3 hx_4 hf_0 hf_1 hf_2 hf_3 hf_4 HV1 HV2); obtain ⟨u0_6, A1_6, c1_6, A2_6, c2_6, u3_6, u4_6, hx_0, hx_1, hx_2, hx_3, hx_4, hf_, hv1_, hv2_⟩ := HU.out.at_ x5_1.toNat q5.out; rw [HN.out] at hx_1 hx_2 hv1_ hv2_; dsimp only at hx_1 hx_2 hv1_ hv2_; have HV1 := Aside0.mk hv1_; have HV2 := Aside0.mk hv2_; have hf_0 := hf_ (x5_1.toNat * 5); have hf_1 := hf_ (x5_1.toNat * 5 + 1); have hf_2 := hf_ (x5_1.toNat * 5 + 2); have hf_3 := hf_ (x5_1.toNat * 5 + 3); have hf_4 := hf_ (x5_1.toNat * 5 + 4); clear hv1_ hv2_ hf_) | ((with_reducible refine gate_store (t := 4) (p := 48) rfl ?_); refine store_event (t := 4) (p := 48) (v := ?vo_wa7) (w1 := (wa6.setCell ⟨go5, x5_1.toNat * 5 + 4, none⟩ (.bool ((wrap64 (b2 + 1)).tmod 3 == 0)))) ?hg ?ho ?hn ?hr ?_; (case ho => rfl); (case hg => rfl); (case hn => rfl); (case hr => first | (go_simp; done) | (go_simp; rfl)); intro wa7 hw; have n1_ := Aside0.mk (show UnB wa7 w0.heap.size P0_ 55 go5 l0.length (lensU l0) by rw [hw]; exact HU.out.put (by decide) x5_1.toNat 4 (by decide) (.bool ((wrap64 (b2 + 1)).tmod 3 == 0))); have n2_ := Aside0.mk (show Kept w wa7 P0_ by rw [hw]; exact HK.out.setCell (.inl GP5.out) _); have n3_ := Aside0.mk (show Below w0.heap.size w0 wa7 by rw [hw]; exact below_set HB.out GB5.out); clear HU HK HB hw; have HU := n1_; have HK := n2_; have HB := n3_; clear n1_ n2_ n3_; (try clear hx_0 hx_1 hx_2 hx_3 hx_4 hf_0 hf_1 hf_2 hf_3 hf_4 HV1 HV2); obtain ⟨u0_7, A1_7, c1_7, A2_7, c2_7, u3_7, u4_7, hx_0, hx_1, hx_2, hx_3, hx_4, hf_, hv1_, hv2_⟩ := HU.out.at_ x5_1.toNat q5.out; rw [HN.out] at hx_1 hx_2 hv1_ hv2_; dsimp only at hx_1 hx_2 hv1_ hv2_; have HV1 := Aside0.mk hv1_; have HV2 := Aside0.mk hv2_; have hf_0 := hf_ (x5_1.toNat * 5); have hf_1 := hf_ (x5_1.toNat * 5 + 1); have hf_2 := hf_ (x5_1.toNat * 5 + 2); have hf_3 := hf_ (x5_1.toNat * 5 + 3); have hf_4 := hf_ (x5_1.toNat * 5 + 4); clear hv1_ hv2_ hf_))
          go_roundg k1
          case measure => have := HK1.out; omega
          case rel => exact ⟨_, _, rfl, rfl, H', ⟨by have := HK1.out; omega⟩, ⟨.inr ⟨go5, rfl, HU.out⟩⟩, HK, HB⟩
        · rw [if_neg c4] at H
          exact absurd H (by simp)
      · rw [if_neg c3] at H
        have c3b0 : decide (x5_1 < (l0.length : Int)) = false := decide_eq_false c3
        clear c3
        obtain rfl := Option.some.inj H
        go_wp2
        go_ret
        exact ⟨rfl, HB.out, HK.out⟩

/-! ### laws_FnExactFailing: function 5 -/
def laws_FnExactFailing.f (k : Nat) (l0 : List (S65)) (l1 : List ByteArray) : Option Bool := (laws_szUnitS.f k l0 1048576).bind fun t0 => (if t0 < 0 then some true else ((laws_szStringS.f k l1 t0).bind fun t9 => (if t9 < 0 then some true else ((laws_toUnitS.f k l0).bind fun a0 => ((laws_toStringS.f k l1).bind fun a1 => ((spec_Failing.f k a0 a1).bind fun w0 => ((laws_toUnitS.f k l0).bind fun x0 => ((laws_toStringS.f k l1).bind fun x1 => ((impl_Failing.f k x0 x1).bind fun g0 => ((laws_eqStringS.f k g0 w0).bind fun t1 => (if t1 = true then ((laws_toUnitS.f k l0).bind fun b0 => ((laws_eqUnitS.f k x0 b0).bind fun t2 => (if t2 = true then ((laws_toStringS.f k l1).bind fun b1 => ((laws_eqStringS.f k x1 b1).bind fun t3 => (if t3 = true then ((laws_markUnitS.f k x0 1).bind fun k1 => ((laws_markStringS.f k x1 k1).bind fun ⟨k2, z1⟩ => (if k2 < 0 then none else ((laws_eqStringS.f k g0 w0).bind fun s1 => (if s1 = true then ((laws_markStringS.f k g0 1).bind fun ⟨m1, e0⟩ => ((laws_heldStringS.f k e0 1).bind fun q1 => (if q1 < 0 then none else (if m1 = q1 then ((laws_toUnitS.f k l0).bind fun d0 => ((laws_toStringS.f k l1).bind fun d1 => ((impl_Failing.f k d0 d1).bind fun h0 => ((laws_eqStringS.f k h0 w0).bind fun s2 => (if s2 = true then ((laws_heldStringS.f k e0 1).bind fun q2 => (if m1 = q2 then (some true) else none)) else none))))) else none)))) else none))))) else none))) else none))) else none)))))))))))
set_option maxHeartbeats 8000000 in
set_option maxRecDepth 100000 in
theorem laws_FnExactFailing.calls (k : Nat) (Al0 : Option Addr) (cl0 : Nat) (l0 : List (S65)) (Al1 : Option Addr) (cl1 : Nat) (l1 : List ByteArray) (r : Bool) (w : World) (hrl0 : Kd.C k65 w Al0 l0.length l0) (hcl0 : l0.length ≤ cl0) (hrl1 : Kd.C Kd.string w Al1 l1.length l1) (hcl1 : l1.length ≤ cl1) (h : laws_FnExactFailing.f k l0 l1 = some r) :
    Calls Try.prog 5 #[.slice Al0 l0.length cl0, .slice Al1 l1.length cl1] w fun e w' => e = .returned (.bool r) ∧ Below w.heap.size w w' := by
  have HR_l0 := Aside0.mk hrl0
  have HC_l0 := Aside0.mk hcl0
  clear hrl0 hcl0
  have HR_l1 := Aside0.mk hrl1
  have HC_l1 := Aside0.mk hcl1
  clear hrl1 hcl1
  have HB := Aside0.mk (Below.refl w.heap.size w)
  unfold laws_FnExactFailing.f at h
  replace h := Option.bind_eq_some_iff.mp h
  obtain ⟨t0, EE, h⟩ := h
  have E0 := Aside0.mk EE
  clear EE
  try dsimp only at h
  by_cases C1 : t0 < 0
  · rw [if_pos C1] at h
    have C1a : decide (t0 < 0) = true := decide_eq_true C1
    clear C1
    obtain rfl := Option.some.inj h
    clear h
    go_enter Try.func5, Try.ntmps5
    go_wp2_with (first | (go_at_call 12; (with_reducible refine (laws_szUnitS.calls (hr0 := (Kd.C_below HR_l0.out (by repeat (first | (with_reducible first | exact HB.out | apply below_alloc | apply pw_below_drewN | apply below_drew1) | exact HB.out)))) (hc0 := HC_l0.out) (h := E0.out)).mono ?_); rintro e w1 ⟨rfl, hd⟩; (first | have hb := below_of hd | have hb := hd); clear hd; have Z1 := Aside0.mk (show w.heap.size ≤ w1.heap.size from hb.size); have HB' := Aside0.mk (below_step (by repeat (first | (with_reducible first | exact HB.out | apply below_alloc | apply pw_below_drewN | apply below_drew1) | exact HB.out)) hb); clear HB; have HB := HB'; clear HB'; clear E0))
    go_ret
    exact ⟨rfl, by repeat (first | (with_reducible first | exact HB.out | apply below_alloc | apply pw_below_drewN | apply below_drew1) | exact HB.out)⟩
  rw [if_neg C1] at h
  have C1a : decide (t0 < 0) = false := decide_eq_false C1
  clear C1
  replace h := Option.bind_eq_some_iff.mp h
  obtain ⟨t9, EE, h⟩ := h
  have E2 := Aside0.mk EE
  clear EE
  try dsimp only at h
  by_cases C3 : t9 < 0
  · rw [if_pos C3] at h
    have C3a : decide (t9 < 0) = true := decide_eq_true C3
    clear C3
    obtain rfl := Option.some.inj h
    clear h
    go_enter Try.func5, Try.ntmps5
    go_wp2_with (first | (go_at_call 12; (with_reducible refine (laws_szUnitS.calls (hr0 := (Kd.C_below HR_l0.out (by repeat (first | (with_reducible first | exact HB.out | apply below_alloc | apply pw_below_drewN | apply below_drew1) | exact HB.out)))) (hc0 := HC_l0.out) (h := E0.out)).mono ?_); rintro e w1 ⟨rfl, hd⟩; (first | have hb := below_of hd | have hb := hd); clear hd; have Z1 := Aside0.mk (show w.heap.size ≤ w1.heap.size from hb.size); have HB' := Aside0.mk (below_step (by repeat (first | (with_reducible first | exact HB.out | apply below_alloc | apply pw_below_drewN | apply below_drew1) | exact HB.out)) hb); clear HB; have HB := HB'; clear HB'; clear E0) | (go_at_call 17; (with_reducible refine (laws_szStringS.calls (hr0 := (Kd.C_below HR_l1.out (by repeat (first | (with_reducible first | exact HB.out | apply below_alloc | apply pw_below_drewN | apply below_drew1) | exact HB.out)))) (hc0 := HC_l1.out) (h := E2.out)).mono ?_); rintro e w2 ⟨rfl, hd⟩; (first | have hb := below_of hd | have hb := hd); clear hd; have Z2 := Aside0.mk (show w1.heap.size ≤ w2.heap.size from hb.size); have HB' := Aside0.mk (below_step (by repeat (first | (with_reducible first | exact HB.out | apply below_alloc | apply pw_below_drewN | apply below_drew1) | exact HB.out)) hb); clear HB; have HB := HB'; clear HB'; clear E2))
    go_ret
    exact ⟨rfl, by repeat (first | (with_reducible first | exact HB.out | apply below_alloc | apply pw_below_drewN | apply below_drew1) | exact HB.out)⟩
  rw [if_neg C3] at h
  have C3a : decide (t9 < 0) = false := decide_eq_false C3
  clear C3
  replace h := Option.bind_eq_some_iff.mp h
  obtain ⟨a0, EE, h⟩ := h
  have E4 := Aside0.mk EE
  clear EE
  try dsimp only at h
  replace h := Option.bind_eq_some_iff.mp h
  obtain ⟨a1, EE, h⟩ := h
  have E5 := Aside0.mk EE
  clear EE
  try dsimp only at h
  replace h := Option.bind_eq_some_iff.mp h
  obtain ⟨w0, EE, h⟩ := h
  have E6 := Aside0.mk EE
  clear EE
  try dsimp only at h
  replace h := Option.bind_eq_some_iff.mp h
  obtain ⟨x0, EE, h⟩ := h
  have E7 := Aside0.mk EE
  clear EE
  try dsimp only at h
  replace h := Option.bind_eq_some_iff.mp h
  obtain ⟨x1, EE, h⟩ := h
  have E8 := Aside0.mk EE
  clear EE
  try dsimp only at h
  replace h := Option.bind_eq_some_iff.mp h
  obtain ⟨g0, EE, h⟩ := h
  have E9 := Aside0.mk EE
  clear EE
  try dsimp only at h
  replace h := Option.bind_eq_some_iff.mp h
  obtain ⟨t1, EE, h⟩ := h
  have E10 := Aside0.mk EE
  clear EE
  try dsimp only at h
  by_cases C11 : ¬ (t1 = true)
  · rw [if_neg C11] at h; exact absurd h (by simp)
  replace C11 := Classical.not_not.mp C11
  rw [if_pos C11] at h
  subst C11
  replace h := Option.bind_eq_some_iff.mp h
  obtain ⟨b0, EE, h⟩ := h
  have E12 := Aside0.mk EE
  clear EE
  try dsimp only at h
  replace h := Option.bind_eq_some_iff.mp h
  obtain ⟨t2, EE, h⟩ := h
  have E13 := Aside0.mk EE
  clear EE
  try dsimp only at h
  by_cases C14 : ¬ (t2 = true)
  · rw [if_neg C14] at h; exact absurd h (by simp)
  replace C14 := Classical.not_not.mp C14
  rw [if_pos C14] at h
  subst C14
  replace h := Option.bind_eq_some_iff.mp h
  obtain ⟨b1, EE, h⟩ := h
  have E15 := Aside0.mk EE
  clear EE
  try dsimp only at h
  replace h := Option.bind_eq_some_iff.mp h
  obtain ⟨t3, EE, h⟩ := h
  have E16 := Aside0.mk EE
  clear EE
  try dsimp only at h
  by_cases C17 : ¬ (t3 = true)
  · rw [if_neg C17] at h; exact absurd h (by simp)
  replace C17 := Classical.not_not.mp C17
  rw [if_pos C17] at h
  subst C17
  replace h := Option.bind_eq_some_iff.mp h
  obtain ⟨k1, EE, h⟩ := h
  have E18 := Aside0.mk EE
  clear EE
  try dsimp only at h
  replace h := Option.bind_eq_some_iff.mp h
  obtain ⟨⟨k2, z1⟩, EE, h⟩ := h
  have E19 := Aside0.mk EE
  clear EE
  try dsimp only at h
  by_cases C20 : k2 < 0
  · rw [if_pos C20] at h; exact absurd h (by simp)
  rw [if_neg C20] at h
  have C20a : decide (k2 < 0) = false := decide_eq_false C20
  clear C20
  replace h := Option.bind_eq_some_iff.mp h
  obtain ⟨s1, EE, h⟩ := h
  have E21 := Aside0.mk EE
  clear EE
  try dsimp only at h
  by_cases C22 : ¬ (s1 = true)
  · rw [if_neg C22] at h; exact absurd h (by simp)
  replace C22 := Classical.not_not.mp C22
  rw [if_pos C22] at h
  subst C22
  replace h := Option.bind_eq_some_iff.mp h
  obtain ⟨⟨m1, e0⟩, EE, h⟩ := h
  have E23 := Aside0.mk EE
  clear EE
  try dsimp only at h
  replace h := Option.bind_eq_some_iff.mp h
  obtain ⟨q1, EE, h⟩ := h
  have E24 := Aside0.mk EE
  clear EE
  try dsimp only at h
  by_cases C25 : q1 < 0
  · rw [if_pos C25] at h; exact absurd h (by simp)
  rw [if_neg C25] at h
  have C25a : decide (q1 < 0) = false := decide_eq_false C25
  clear C25
  by_cases C26 : ¬ (m1 = q1)
  · rw [if_neg C26] at h; exact absurd h (by simp)
  replace C26 := Classical.not_not.mp C26
  rw [if_pos C26] at h
  subst C26
  have C26a : (m1 != m1) = false := by simp
  have C26b : (m1 == m1) = true := by simp
  replace h := Option.bind_eq_some_iff.mp h
  obtain ⟨d0, EE, h⟩ := h
  have E27 := Aside0.mk EE
  clear EE
  try dsimp only at h
  replace h := Option.bind_eq_some_iff.mp h
  obtain ⟨d1, EE, h⟩ := h
  have E28 := Aside0.mk EE
  clear EE
  try dsimp only at h
  replace h := Option.bind_eq_some_iff.mp h
  obtain ⟨h0, EE, h⟩ := h
  have E29 := Aside0.mk EE
  clear EE
  try dsimp only at h
  replace h := Option.bind_eq_some_iff.mp h
  obtain ⟨s2, EE, h⟩ := h
  have E30 := Aside0.mk EE
  clear EE
  try dsimp only at h
  by_cases C31 : ¬ (s2 = true)
  · rw [if_neg C31] at h; exact absurd h (by simp)
  replace C31 := Classical.not_not.mp C31
  rw [if_pos C31] at h
  subst C31
  replace h := Option.bind_eq_some_iff.mp h
  obtain ⟨q2, EE, h⟩ := h
  have E32 := Aside0.mk EE
  clear EE
  try dsimp only at h
  by_cases C33 : ¬ (m1 = q2)
  · rw [if_neg C33] at h; exact absurd h (by simp)
  replace C33 := Classical.not_not.mp C33
  rw [if_pos C33] at h
  subst C33
  have C33a : (m1 != m1) = false := by simp
  have C33b : (m1 == m1) = true := by simp
  obtain rfl := Option.some.inj h
  clear h
  go_enter Try.func5, Try.ntmps5
  go_wp2_with (first | (go_at_call 12; (with_reducible refine (laws_szUnitS.calls (hr0 := (Kd.C_below HR_l0.out (by repeat (first | (with_reducible first | exact HB.out | apply below_alloc | apply pw_below_drewN | apply below_drew1) | exact HB.out)))) (hc0 := HC_l0.out) (h := E0.out)).mono ?_); rintro e w1 ⟨rfl, hd⟩; (first | have hb := below_of hd | have hb := hd); clear hd; have Z1 := Aside0.mk (show w.heap.size ≤ w1.heap.size from hb.size); have HB' := Aside0.mk (below_step (by repeat (first | (with_reducible first | exact HB.out | apply below_alloc | apply pw_below_drewN | apply below_drew1) | exact HB.out)) hb); clear HB; have HB := HB'; clear HB'; clear E0) | (go_at_call 17; (with_reducible refine (laws_szStringS.calls (hr0 := (Kd.C_below HR_l1.out (by repeat (first | (with_reducible first | exact HB.out | apply below_alloc | apply pw_below_drewN | apply below_drew1) | exact HB.out)))) (hc0 := HC_l1.out) (h := E2.out)).mono ?_); rintro e w2 ⟨rfl, hd⟩; (first | have hb := below_of hd | have hb := hd); clear hd; have Z2 := Aside0.mk (show w1.heap.size ≤ w2.heap.size from hb.size); have HB' := Aside0.mk (below_step (by repeat (first | (with_reducible first | exact HB.out | apply below_alloc | apply pw_below_drewN | apply below_drew1) | exact HB.out)) hb); clear HB; have HB := HB'; clear HB'; clear E2) | (go_at_call 14; (with_reducible refine (laws_toUnitS.calls (hr0 := (Kd.C_below HR_l0.out (by repeat (first | (with_reducible first | exact HB.out | apply below_alloc | apply pw_below_drewN | apply below_drew1) | exact HB.out)))) (hc0 := HC_l0.out) (h := E4.out)).mono ?_); rintro e w3 ⟨v0_, rfl, ho0, hb⟩; have H_a0 := Aside0.mk (show Kd.S _ _ w3 w.heap.size (fun k_ => w2.heap.size ≤ k_ ∧ k_ < w3.heap.size) v0_ a0 from Kd.S_mono (Kd.S_lower (Kd.S_bound ho0) HB.out.size) (fun k_ hk_ => ⟨hk_.2.1, hk_.2.2.1⟩)); obtain ⟨A_a0, c_a0, e_a0⟩ := Kd.S_slice ho0; subst e_a0; clear ho0; have Z3 := Aside0.mk (show w2.heap.size ≤ w3.heap.size from hb.size); have HB' := Aside0.mk (below_step (by repeat (first | (with_reducible first | exact HB.out | apply below_alloc | apply pw_below_drewN | apply below_drew1) | exact HB.out)) hb); clear HB; have HB := HB'; clear HB'; clear E4) | (go_at_call 20; (with_reducible refine (laws_toStringS.calls (hr0 := (Kd.C_below HR_l1.out (by repeat (first | (with_reducible first | exact HB.out | apply below_alloc | apply pw_below_drewN | apply below_drew1) | exact HB.out)))) (hc0 := HC_l1.out) (h := E5.out)).mono ?_); rintro e w4 ⟨v0_, rfl, ho0, hb⟩; have H_a0' := Aside0.mk (Kd.S_below (by first | exact H_a0.out | exact Kd.S_drewN H_a0.out _) hb); have H_a1 := Aside0.mk (show Kd.R _ _ w4 w.heap.size (fun k_ => w3.heap.size ≤ k_ ∧ k_ < w4.heap.size) v0_ a1 from Kd.R_mono (Kd.R_lower (Kd.R_bound ho0) HB.out.size) (fun k_ hk_ => ⟨hk_.2.1, hk_.2.2.1⟩)); obtain ⟨A_a1, c_a1, e_a1⟩ := Kd.R_slice ho0; subst e_a1; clear ho0; have Z4 := Aside0.mk (show w3.heap.size ≤ w4.heap.size from hb.size); have HB' := Aside0.mk (below_step (by repeat (first | (with_reducible first | exact HB.out | apply below_alloc | apply pw_below_drewN | apply below_drew1) | exact HB.out)) hb); clear HB; have HB := HB'; clear HB'; clear H_a0; have H_a0 := H_a0'; clear H_a0'; clear E5) | (go_at_call 28; (with_reducible refine (spec_Failing.calls (hr0 := (Kd.S_reads' (by first | exact H_a0.out | exact Kd.S_drewN H_a0.out _)).2.2) (hc0 := (Kd.S_reads' H_a0.out).2.1) (hr1 := (Kd.R_reads' (by first | exact H_a1.out | exact Kd.R_drewN H_a1.out _)).2.2) (hc1 := (Kd.R_reads' H_a1.out).2.1) (h := E6.out)).mono ?_); rintro e w5 ⟨v0_, rfl, ho0, hb⟩; have H_a0' := Aside0.mk (Kd.S_below (by first | exact H_a0.out | exact Kd.S_drewN H_a0.out _) hb); have H_a1' := Aside0.mk (Kd.R_below (by first | exact H_a1.out | exact Kd.R_drewN H_a1.out _) hb); have H_w0 := Aside0.mk (show Kd.R _ _ w5 w.heap.size (fun k_ => w4.heap.size ≤ k_ ∧ k_ < w5.heap.size) v0_ w0 from Kd.R_mono (Kd.R_lower (Kd.R_bound ho0) HB.out.size) (fun k_ hk_ => ⟨hk_.2.1, hk_.2.2.1⟩)); obtain ⟨A_w0, c_w0, e_w0⟩ := Kd.R_slice ho0; subst e_w0; clear ho0; have Z5 := Aside0.mk (show w4.heap.size ≤ w5.heap.size from hb.size); have HB' := Aside0.mk (below_step (by repeat (first | (with_reducible first | exact HB.out | apply below_alloc | apply pw_below_drewN | apply below_drew1) | exact HB.out)) hb); clear HB; have HB := HB'; clear HB'; clear H_a0; clear H_a1; have H_a0 := H_a0'; clear H_a0'; have H_a1 := H_a1'; clear H_a1'; clear H_a0; clear H_a1; clear E6) | (go_at_call 14; (with_reducible refine (laws_toUnitS.calls (hr0 := (Kd.C_below HR_l0.out (by repeat (first | (with_reducible first | exact HB.out | apply below_alloc | apply pw_below_drewN | apply below_drew1) | exact HB.out)))) (hc0 := HC_l0.out) (h := E7.out)).mono ?_); rintro e w6 ⟨v0_, rfl, ho0, hb⟩; have H_w0' := Aside0.mk (Kd.R_below (by first | exact H_w0.out | exact Kd.R_drewN H_w0.out _) hb); have H_x0 := Aside0.mk (show Kd.S _ _ w6 w.heap.size (fun k_ => w5.heap.size ≤ k_ ∧ k_ < w6.heap.size) v0_ x0 from Kd.S_mono (Kd.S_lower (Kd.S_bound ho0) HB.out.size) (fun k_ hk_ => ⟨hk_.2.1, hk_.2.2.1⟩)); obtain ⟨A_x0, c_x0, e_x0⟩ := Kd.S_slice ho0; subst e_x0; clear ho0; have Z6 := Aside0.mk (show w5.heap.size ≤ w6.heap.size from hb.size); have HB' := Aside0.mk (below_step (by repeat (first | (with_reducible first | exact HB.out | apply below_alloc | apply pw_below_drewN | apply below_drew1) | exact HB.out)) hb); clear HB; have HB := HB'; clear HB'; clear H_w0; have H_w0 := H_w0'; clear H_w0'; clear E7) | (go_at_call 20; (with_reducible refine (laws_toStringS.calls (hr0 := (Kd.C_below HR_l1.out (by repeat (first | (with_reducible first | exact HB.out | apply below_alloc | apply pw_below_drewN | apply below_drew1) | exact HB.out)))) (hc0 := HC_l1.out) (h := E8.out)).mono ?_); rintro e w7 ⟨v0_, rfl, ho0, hb⟩; have H_w0' := Aside0.mk (Kd.R_below (by first | exact H_w0.out | exact Kd.R_drewN H_w0.out _) hb); have H_x0' := Aside0.mk (Kd.S_below (by first | exact H_x0.out | exact Kd.S_drewN H_x0.out _) hb); have H_x1 := Aside0.mk (show Kd.R _ _ w7 w.heap.size (fun k_ => w6.heap.size ≤ k_ ∧ k_ < w7.heap.size) v0_ x1 from Kd.R_mono (Kd.R_lower (Kd.R_bound ho0) HB.out.size) (fun k_ hk_ => ⟨hk_.2.1, hk_.2.2.1⟩)); obtain ⟨A_x1, c_x1, e_x1⟩ := Kd.R_slice ho0; subst e_x1; clear ho0; have Z7 := Aside0.mk (show w6.heap.size ≤ w7.heap.size from hb.size); have HB' := Aside0.mk (below_step (by repeat (first | (with_reducible first | exact HB.out | apply below_alloc | apply pw_below_drewN | apply below_drew1) | exact HB.out)) hb); clear HB; have HB := HB'; clear HB'; clear H_w0; clear H_x0; have H_w0 := H_w0'; clear H_w0'; have H_x0 := H_x0'; clear H_x0'; clear E8) | (go_at_call 29; (with_reducible refine (impl_Failing.calls (hr0 := (Kd.S_reads' (by first | exact H_x0.out | exact Kd.S_drewN H_x0.out _)).2.2) (hc0 := (Kd.S_reads' H_x0.out).2.1) (hr1 := (Kd.R_reads' (by first | exact H_x1.out | exact Kd.R_drewN H_x1.out _)).2.2) (hc1 := (Kd.R_reads' H_x1.out).2.1) (h := E9.out)).mono ?_); rintro e w8 ⟨v0_, rfl, ho0, hb⟩; have H_w0' := Aside0.mk (Kd.R_below (by first | exact H_w0.out | exact Kd.R_drewN H_w0.out _) hb); have H_x0' := Aside0.mk (Kd.S_below (by first | exact H_x0.out | exact Kd.S_drewN H_x0.out _) hb); have H_x1' := Aside0.mk (Kd.R_below (by first | exact H_x1.out | exact Kd.R_drewN H_x1.out _) hb); have H_g0 := Aside0.mk (show Kd.R _ _ w8 w.heap.size (fun k_ => w7.heap.size ≤ k_ ∧ k_ < w8.heap.size) v0_ g0 from Kd.R_mono (Kd.R_lower (Kd.R_bound ho0) HB.out.size) (fun k_ hk_ => ⟨hk_.2.1, hk_.2.2.1⟩)); obtain ⟨A_g0, c_g0, e_g0⟩ := Kd.R_slice ho0; subst e_g0; clear ho0; have Z8 := Aside0.mk (show w7.heap.size ≤ w8.heap.size from hb.size); have HB' := Aside0.mk (below_step (by repeat (first | (with_reducible first | exact HB.out | apply below_alloc | apply pw_below_drewN | apply below_drew1) | exact HB.out)) hb); clear HB; have HB := HB'; clear HB'; clear H_w0; clear H_x0; clear H_x1; have H_w0 := H_w0'; clear H_w0'; have H_x0 := H_x0'; clear H_x0'; have H_x1 := H_x1'; clear H_x1'; clear E9) | (go_at_call 23; (with_reducible refine (laws_eqStringS.calls (hr0 := (Kd.R_reads' (by first | exact H_g0.out | exact Kd.R_drewN H_g0.out _)).2.2) (hc0 := (Kd.R_reads' H_g0.out).2.1) (hr1 := (Kd.R_reads' (by first | exact H_w0.out | exact Kd.R_drewN H_w0.out _)).2.2) (hc1 := (Kd.R_reads' H_w0.out).2.1) (h := E10.out)).mono ?_); rintro e w9 ⟨rfl, hd⟩; (first | have hb := below_of hd | have hb := hd); clear hd; have Z9 := Aside0.mk (show w8.heap.size ≤ w9.heap.size from hb.size); have HB' := Aside0.mk (below_step (by repeat (first | (with_reducible first | exact HB.out | apply below_alloc | apply pw_below_drewN | apply below_drew1) | exact HB.out)) hb); clear HB; have HB := HB'; clear HB'; have H_w0' := Aside0.mk (Kd.R_below (by first | exact H_w0.out | exact Kd.R_drewN H_w0.out _) hb); have H_x0' := Aside0.mk (Kd.S_below (by first | exact H_x0.out | exact Kd.S_drewN H_x0.out _) hb); have H_x1' := Aside0.mk (Kd.R_below (by first | exact H_x1.out | exact Kd.R_drewN H_x1.out _) hb); have H_g0' := Aside0.mk (Kd.R_below (by first | exact H_g0.out | exact Kd.R_drewN H_g0.out _) hb); clear H_w0; clear H_x0; clear H_x1; clear H_g0; have H_w0 := H_w0'; clear H_w0'; have H_x0 := H_x0'; clear H_x0'; have H_x1 := H_x1'; clear H_x1'; have H_g0 := H_g0'; clear H_g0'; clear E10) | (go_at_call 14; (with_reducible refine (laws_toUnitS.calls (hr0 := (Kd.C_below HR_l0.out (by repeat (first | (with_reducible first | exact HB.out | apply below_alloc | apply pw_below_drewN | apply below_drew1) | exact HB.out)))) (hc0 := HC_l0.out) (h := E12.out)).mono ?_); rintro e w10 ⟨v0_, rfl, ho0, hb⟩; have H_w0' := Aside0.mk (Kd.R_below (by first | exact H_w0.out | exact Kd.R_drewN H_w0.out _) hb); have H_x0' := Aside0.mk (Kd.S_below (by first | exact H_x0.out | exact Kd.S_drewN H_x0.out _) hb); have H_x1' := Aside0.mk (Kd.R_below (by first | exact H_x1.out | exact Kd.R_drewN H_x1.out _) hb); have H_g0' := Aside0.mk (Kd.R_below (by first | exact H_g0.out | exact Kd.R_drewN H_g0.out _) hb); have H_b0 := Aside0.mk (show Kd.S _ _ w10 w.heap.size (fun k_ => w9.heap.size ≤ k_ ∧ k_ < w10.heap.size) v0_ b0 from Kd.S_mono (Kd.S_lower (Kd.S_bound ho0) HB.out.size) (fun k_ hk_ => ⟨hk_.2.1, hk_.2.2.1⟩)); obtain ⟨A_b0, c_b0, e_b0⟩ := Kd.S_slice ho0; subst e_b0; clear ho0; have Z10 := Aside0.mk (show w9.heap.size ≤ w10.heap.size from hb.size); have HB' := Aside0.mk (below_step (by repeat (first | (with_reducible first | exact HB.out | apply below_alloc | apply pw_below_drewN | apply below_drew1) | exact HB.out)) hb); clear HB; have HB := HB'; clear HB'; clear H_w0; clear H_x0; clear H_x1; clear H_g0; have H_w0 := H_w0'; clear H_w0'; have H_x0 := H_x0'; clear H_x0'; have H_x1 := H_x1'; clear H_x1'; have H_g0 := H_g0'; clear H_g0'; clear E12) | (go_at_call 16; (with_reducible refine (laws_eqUnitS.calls (hr0 := (Kd.S_reads' (by first | exact H_x0.out | exact Kd.S_drewN H_x0.out _)).2.2) (hc0 := (Kd.S_reads' H_x0.out).2.1) (hr1 := (Kd.S_reads' (by first | exact H_b0.out | exact Kd.S_drewN H_b0.out _)).2.2) (hc1 := (Kd.S_reads' H_b0.out).2.1) (h := E13.out)).mono ?_); rintro e w11 ⟨rfl, hd⟩; (first | have hb := below_of hd | have hb := hd); clear hd; have Z11 := Aside0.mk (show w10.heap.size ≤ w11.heap.size from hb.size); have HB' := Aside0.mk (below_step (by repeat (first | (with_reducible first | exact HB.out | apply below_alloc | apply pw_below_drewN | apply below_drew1) | exact HB.out)) hb); clear HB; have HB := HB'; clear HB'; have H_w0' := Aside0.mk (Kd.R_below (by first | exact H_w0.out | exact Kd.R_drewN H_w0.out _) hb); have H_x0' := Aside0.mk (Kd.S_below (by first | exact H_x0.out | exact Kd.S_drewN H_x0.out _) hb); have H_x1' := Aside0.mk (Kd.R_below (by first | exact H_x1.out | exact Kd.R_drewN H_x1.out _) hb); have H_g0' := Aside0.mk (Kd.R_below (by first | exact H_g0.out | exact Kd.R_drewN H_g0.out _) hb); have H_b0' := Aside0.mk (Kd.S_below (by first | exact H_b0.out | exact Kd.S_drewN H_b0.out _) hb); clear H_w0; clear H_x0; clear H_x1; clear H_g0; clear H_b0; have H_w0 := H_w0'; clear H_w0'; have H_x0 := H_x0'; clear H_x0'; have H_x1 := H_x1'; clear H_x1'; have H_g0 := H_g0'; clear H_g0'; have H_b0 := H_b0'; clear H_b0'; clear H_b0; clear E13) | (go_at_call 20; (with_reducible refine (laws_toStringS.calls (hr0 := (Kd.C_below HR_l1.out (by repeat (first | (with_reducible first | exact HB.out | apply below_alloc | apply pw_below_drewN | apply below_drew1) | exact HB.out)))) (hc0 := HC_l1.out) (h := E15.out)).mono ?_); rintro e w12 ⟨v0_, rfl, ho0, hb⟩; have H_w0' := Aside0.mk (Kd.R_below (by first | exact H_w0.out | exact Kd.R_drewN H_w0.out _) hb); have H_x0' := Aside0.mk (Kd.S_below (by first | exact H_x0.out | exact Kd.S_drewN H_x0.out _) hb); have H_x1' := Aside0.mk (Kd.R_below (by first | exact H_x1.out | exact Kd.R_drewN H_x1.out _) hb); have H_g0' := Aside0.mk (Kd.R_below (by first | exact H_g0.out | exact Kd.R_drewN H_g0.out _) hb); have H_b1 := Aside0.mk (show Kd.R _ _ w12 w.heap.size (fun k_ => w11.heap.size ≤ k_ ∧ k_ < w12.heap.size) v0_ b1 from Kd.R_mono (Kd.R_lower (Kd.R_bound ho0) HB.out.size) (fun k_ hk_ => ⟨hk_.2.1, hk_.2.2.1⟩)); obtain ⟨A_b1, c_b1, e_b1⟩ := Kd.R_slice ho0; subst e_b1; clear ho0; have Z12 := Aside0.mk (show w11.heap.size ≤ w12.heap.size from hb.size); have HB' := Aside0.mk (below_step (by repeat (first | (with_reducible first | exact HB.out | apply below_alloc | apply pw_below_drewN | apply below_drew1) | exact HB.out)) hb); clear HB; have HB := HB'; clear HB'; clear H_w0; clear H_x0; clear H_x1; clear H_g0; have H_w0 := H_w0'; clear H_w0'; have H_x0 := H_x0'; clear H_x0'; have H_x1 := H_x1'; clear H_x1'; have H_g0 := H_g0'; clear H_g0'; clear E15) | (go_at_call 23; (with_reducible refine (laws_eqStringS.calls (hr0 := (Kd.R_reads' (by first | exact H_x1.out | exact Kd.R_drewN H_x1.out _)).2.2) (hc0 := (Kd.R_reads' H_x1.out).2.1) (hr1 := (Kd.R_reads' (by first | exact H_b1.out | exact Kd.R_drewN H_b1.out _)).2.2) (hc1 := (Kd.R_reads' H_b1.out).2.1) (h := E16.out)).mono ?_); rintro e w13 ⟨rfl, hd⟩; (first | have hb := below_of hd | have hb := hd); clear hd; have Z13 := Aside0.mk (show w12.heap.size ≤ w13.heap.size from hb.size); have HB' := Aside0.mk (below_step (by repeat (first | (with_reducible first | exact HB.out | apply below_alloc | apply pw_below_drewN | apply below_drew1) | exact HB.out)) hb); clear HB; have HB := HB'; clear HB'; have H_w0' := Aside0.mk (Kd.R_below (by first | exact H_w0.out | exact Kd.R_drewN H_w0.out _) hb); have H_x0' := Aside0.mk (Kd.S_below (by first | exact H_x0.out | exact Kd.S_drewN H_x0.out _) hb); have H_x1' := Aside0.mk (Kd.R_below (by first | exact H_x1.out | exact Kd.R_drewN H_x1.out _) hb); have H_g0' := Aside0.mk (Kd.R_below (by first | exact H_g0.out | exact Kd.R_drewN H_g0.out _) hb); have H_b1' := Aside0.mk (Kd.R_below (by first | exact H_b1.out | exact Kd.R_drewN H_b1.out _) hb); clear H_w0; clear H_x0; clear H_x1; clear H_g0; clear H_b1; have H_w0 := H_w0'; clear H_w0'; have H_x0 := H_x0'; clear H_x0'; have H_x1 := H_x1'; clear H_x1'; have H_g0 := H_g0'; clear H_g0'; have H_b1 := H_b1'; clear H_b1'; clear H_b1; clear E16) | (go_at_call 30; (with_reducible refine (laws_markUnitS.calls (w0 := w) (hB := by repeat (first | (with_reducible first | exact HB.out | apply below_alloc | apply pw_below_drewN | apply below_drew1) | exact HB.out)) (ho0 := by first | exact H_x0.out | exact Kd.S_drewN H_x0.out _) (h := E18.out)).mono ?_); rintro e w14 ⟨rfl, hb0, hk⟩; have Z14 := Aside0.mk (show w13.heap.size ≤ w14.heap.size from hk.1); have H_w0' := Aside0.mk (Kd.R_kept (by first | exact H_w0.out | exact Kd.R_drewN H_w0.out _) hk (fun k_ h1_ h2_ => by have h1_ : w4.heap.size ≤ k_ ∧ k_ < w5.heap.size := h1_; have h2_ : w5.heap.size ≤ k_ ∧ k_ < w6.heap.size := h2_; have := Z1.out; have := Z2.out; have := Z3.out; have := Z4.out; have := Z5.out; have := Z6.out; have := Z7.out; have := Z8.out; have := Z9.out; have := Z10.out; have := Z11.out; have := Z12.out; have := Z13.out; have := Z14.out; omega)); have H_x1' := Aside0.mk (Kd.R_kept (by first | exact H_x1.out | exact Kd.R_drewN H_x1.out _) hk (fun k_ h1_ h2_ => by have h1_ : w6.heap.size ≤ k_ ∧ k_ < w7.heap.size := h1_; have h2_ : w5.heap.size ≤ k_ ∧ k_ < w6.heap.size := h2_; have := Z1.out; have := Z2.out; have := Z3.out; have := Z4.out; have := Z5.out; have := Z6.out; have := Z7.out; have := Z8.out; have := Z9.out; have := Z10.out; have := Z11.out; have := Z12.out; have := Z13.out; have := Z14.out; omega)); have H_g0' := Aside0.mk (Kd.R_kept (by first | exact H_g0.out | exact Kd.R_drewN H_g0.out _) hk (fun k_ h1_ h2_ => by have h1_ : w7.heap.size ≤ k_ ∧ k_ < w8.heap.size := h1_; have h2_ : w5.heap.size ≤ k_ ∧ k_ < w6.heap.size := h2_; have := Z1.out; have := Z2.out; have := Z3.out; have := Z4.out; have := Z5.out; have := Z6.out; have := Z7.out; have := Z8.out; have := Z9.out; have := Z10.out; have := Z11.out; have := Z12.out; have := Z13.out; have := Z14.out; omega)); have HB' := Aside0.mk hb0; clear HB; have HB := HB'; clear HB' hb0 hk; clear H_x0; clear H_w0; have H_w0 := H_w0'; clear H_w0'; clear H_x1; have H_x1 := H_x1'; clear H_x1'; clear H_g0; have H_g0 := H_g0'; clear H_g0'; clear E18) | (go_at_call 25; (with_reducible refine (laws_markStringS.calls (w0 := w) (hB := by repeat (first | (with_reducible first | exact HB.out | apply below_alloc | apply pw_below_drewN | apply below_drew1) | exact HB.out)) (ho0 := by first | exact H_x1.out | exact Kd.R_drewN H_x1.out _) (h := E19.out)).mono ?_); rintro e w15 ⟨rfl, ho, hb0, hk⟩; have hl := (Kd.R_reads' ho).1; have Z15 := Aside0.mk (show w14.heap.size ≤ w15.heap.size from hk.1); have H_w0' := Aside0.mk (Kd.R_kept (by first | exact H_w0.out | exact Kd.R_drewN H_w0.out _) hk (fun k_ h1_ h2_ => by have h1_ : w4.heap.size ≤ k_ ∧ k_ < w5.heap.size := h1_; have h2_ : w6.heap.size ≤ k_ ∧ k_ < w7.heap.size := h2_; have := Z1.out; have := Z2.out; have := Z3.out; have := Z4.out; have := Z5.out; have := Z6.out; have := Z7.out; have := Z8.out; have := Z9.out; have := Z10.out; have := Z11.out; have := Z12.out; have := Z13.out; have := Z14.out; have := Z15.out; omega)); have H_g0' := Aside0.mk (Kd.R_kept (by first | exact H_g0.out | exact Kd.R_drewN H_g0.out _) hk (fun k_ h1_ h2_ => by have h1_ : w7.heap.size ≤ k_ ∧ k_ < w8.heap.size := h1_; have h2_ : w6.heap.size ≤ k_ ∧ k_ < w7.heap.size := h2_; have := Z1.out; have := Z2.out; have := Z3.out; have := Z4.out; have := Z5.out; have := Z6.out; have := Z7.out; have := Z8.out; have := Z9.out; have := Z10.out; have := Z11.out; have := Z12.out; have := Z13.out; have := Z14.out; have := Z15.out; omega)); have HB' := Aside0.mk hb0; clear HB; have HB := HB'; clear HB' hb0 hk; rw [hl] at ho; have H_x1' := Aside0.mk (Kd.R_bound ho); rw [hl]; clear ho; clear H_w0; clear H_x1; clear H_g0; have H_w0 := H_w0'; clear H_w0'; have H_z1 := H_x1'; clear H_x1'; have H_g0 := H_g0'; clear H_g0'; clear H_z1; clear E19) | (go_at_call 23; (with_reducible refine (laws_eqStringS.calls (hr0 := (Kd.R_reads' (by first | exact H_g0.out | exact Kd.R_drewN H_g0.out _)).2.2) (hc0 := (Kd.R_reads' H_g0.out).2.1) (hr1 := (Kd.R_reads' (by first | exact H_w0.out | exact Kd.R_drewN H_w0.out _)).2.2) (hc1 := (Kd.R_reads' H_w0.out).2.1) (h := E21.out)).mono ?_); rintro e w16 ⟨rfl, hd⟩; (first | have hb := below_of hd | have hb := hd); clear hd; have Z16 := Aside0.mk (show w15.heap.size ≤ w16.heap.size from hb.size); have HB' := Aside0.mk (below_step (by repeat (first | (with_reducible first | exact HB.out | apply below_alloc | apply pw_below_drewN | apply below_drew1) | exact HB.out)) hb); clear HB; have HB := HB'; clear HB'; have H_w0' := Aside0.mk (Kd.R_below (by first | exact H_w0.out | exact Kd.R_drewN H_w0.out _) hb); have H_g0' := Aside0.mk (Kd.R_below (by first | exact H_g0.out | exact Kd.R_drewN H_g0.out _) hb); clear H_w0; clear H_g0; have H_w0 := H_w0'; clear H_w0'; have H_g0 := H_g0'; clear H_g0'; clear E21) | (go_at_call 25; (with_reducible refine (laws_markStringS.calls (w0 := w) (hB := by repeat (first | (with_reducible first | exact HB.out | apply below_alloc | apply pw_below_drewN | apply below_drew1) | exact HB.out)) (ho0 := by first | exact H_g0.out | exact Kd.R_drewN H_g0.out _) (h := E23.out)).mono ?_); rintro e w17 ⟨rfl, ho, hb0, hk⟩; have hl := (Kd.R_reads' ho).1; have Z17 := Aside0.mk (show w16.heap.size ≤ w17.heap.size from hk.1); have H_w0' := Aside0.mk (Kd.R_kept (by first | exact H_w0.out | exact Kd.R_drewN H_w0.out _) hk (fun k_ h1_ h2_ => by have h1_ : w4.heap.size ≤ k_ ∧ k_ < w5.heap.size := h1_; have h2_ : w7.heap.size ≤ k_ ∧ k_ < w8.heap.size := h2_; have := Z1.out; have := Z2.out; have := Z3.out; have := Z4.out; have := Z5.out; have := Z6.out; have := Z7.out; have := Z8.out; have := Z9.out; have := Z10.out; have := Z11.out; have := Z12.out; have := Z13.out; have := Z14.out; have := Z15.out; have := Z16.out; have := Z17.out; omega)); have HB' := Aside0.mk hb0; clear HB; have HB := HB'; clear HB' hb0 hk; rw [hl] at ho; have H_g0' := Aside0.mk (Kd.R_bound ho); rw [hl]; clear ho; clear H_w0; clear H_g0; have H_w0 := H_w0'; clear H_w0'; have H_e0 := H_g0'; clear H_g0'; clear E23) | (go_at_call 27; (with_reducible refine (laws_heldStringS.calls (hr0 := (Kd.R_reads' (by first | exact H_e0.out | exact Kd.R_drewN H_e0.out _)).2.2) (hc0 := (Kd.R_reads' H_e0.out).2.1) (h := E24.out)).mono ?_); rintro e w18 ⟨rfl, hd⟩; (first | have hb := below_of hd | have hb := hd); clear hd; have Z18 := Aside0.mk (show w17.heap.size ≤ w18.heap.size from hb.size); have HB' := Aside0.mk (below_step (by repeat (first | (with_reducible first | exact HB.out | apply below_alloc | apply pw_below_drewN | apply below_drew1) | exact HB.out)) hb); clear HB; have HB := HB'; clear HB'; have H_w0' := Aside0.mk (Kd.R_below (by first | exact H_w0.out | exact Kd.R_drewN H_w0.out _) hb); have H_e0' := Aside0.mk (Kd.R_below (by first | exact H_e0.out | exact Kd.R_drewN H_e0.out _) hb); clear H_w0; clear H_e0; have H_w0 := H_w0'; clear H_w0'; have H_e0 := H_e0'; clear H_e0'; clear E24) | (go_at_call 14; (with_reducible refine (laws_toUnitS.calls (hr0 := (Kd.C_below HR_l0.out (by repeat (first | (with_reducible first | exact HB.out | apply below_alloc | apply pw_below_drewN | apply below_drew1) | exact HB.out)))) (hc0 := HC_l0.out) (h := E27.out)).mono ?_); rintro e w19 ⟨v0_, rfl, ho0, hb⟩; have H_w0' := Aside0.mk (Kd.R_below (by first | exact H_w0.out | exact Kd.R_drewN H_w0.out _) hb); have H_e0' := Aside0.mk (Kd.R_below (by first | exact H_e0.out | exact Kd.R_drewN H_e0.out _) hb); have H_d0 := Aside0.mk (show Kd.S _ _ w19 w.heap.size (fun k_ => w18.heap.size ≤ k_ ∧ k_ < w19.heap.size) v0_ d0 from Kd.S_mono (Kd.S_lower (Kd.S_bound ho0) HB.out.size) (fun k_ hk_ => ⟨hk_.2.1, hk_.2.2.1⟩)); obtain ⟨A_d0, c_d0, e_d0⟩ := Kd.S_slice ho0; subst e_d0; clear ho0; have Z19 := Aside0.mk (show w18.heap.size ≤ w19.heap.size from hb.size); have HB' := Aside0.mk (below_step (by repeat (first | (with_reducible first | exact HB.out | apply below_alloc | apply pw_below_drewN | apply below_drew1) | exact HB.out)) hb); clear HB; have HB := HB'; clear HB'; clear H_w0; clear H_e0; have H_w0 := H_w0'; clear H_w0'; have H_e0 := H_e0'; clear H_e0'; clear E27) | (go_at_call 20; (with_reducible refine (laws_toStringS.calls (hr0 := (Kd.C_below HR_l1.out (by repeat (first | (with_reducible first | exact HB.out | apply below_alloc | apply pw_below_drewN | apply below_drew1) | exact HB.out)))) (hc0 := HC_l1.out) (h := E28.out)).mono ?_); rintro e w20 ⟨v0_, rfl, ho0, hb⟩; have H_w0' := Aside0.mk (Kd.R_below (by first | exact H_w0.out | exact Kd.R_drewN H_w0.out _) hb); have H_e0' := Aside0.mk (Kd.R_below (by first | exact H_e0.out | exact Kd.R_drewN H_e0.out _) hb); have H_d0' := Aside0.mk (Kd.S_below (by first | exact H_d0.out | exact Kd.S_drewN H_d0.out _) hb); have H_d1 := Aside0.mk (show Kd.R _ _ w20 w.heap.size (fun k_ => w19.heap.size ≤ k_ ∧ k_ < w20.heap.size) v0_ d1 from Kd.R_mono (Kd.R_lower (Kd.R_bound ho0) HB.out.size) (fun k_ hk_ => ⟨hk_.2.1, hk_.2.2.1⟩)); obtain ⟨A_d1, c_d1, e_d1⟩ := Kd.R_slice ho0; subst e_d1; clear ho0; have Z20 := Aside0.mk (show w19.heap.size ≤ w20.heap.size from hb.size); have HB' := Aside0.mk (below_step (by repeat (first | (with_reducible first | exact HB.out | apply below_alloc | apply pw_below_drewN | apply below_drew1) | exact HB.out)) hb); clear HB; have HB := HB'; clear HB'; clear H_w0; clear H_e0; clear H_d0; have H_w0 := H_w0'; clear H_w0'; have H_e0 := H_e0'; clear H_e0'; have H_d0 := H_d0'; clear H_d0'; clear E28) | (go_at_call 29; (with_reducible refine (impl_Failing.calls (hr0 := (Kd.S_reads' (by first | exact H_d0.out | exact Kd.S_drewN H_d0.out _)).2.2) (hc0 := (Kd.S_reads' H_d0.out).2.1) (hr1 := (Kd.R_reads' (by first | exact H_d1.out | exact Kd.R_drewN H_d1.out _)).2.2) (hc1 := (Kd.R_reads' H_d1.out).2.1) (h := E29.out)).mono ?_); rintro e w21 ⟨v0_, rfl, ho0, hb⟩; have H_w0' := Aside0.mk (Kd.R_below (by first | exact H_w0.out | exact Kd.R_drewN H_w0.out _) hb); have H_e0' := Aside0.mk (Kd.R_below (by first | exact H_e0.out | exact Kd.R_drewN H_e0.out _) hb); have H_d0' := Aside0.mk (Kd.S_below (by first | exact H_d0.out | exact Kd.S_drewN H_d0.out _) hb); have H_d1' := Aside0.mk (Kd.R_below (by first | exact H_d1.out | exact Kd.R_drewN H_d1.out _) hb); have H_h0 := Aside0.mk (show Kd.R _ _ w21 w.heap.size (fun k_ => w20.heap.size ≤ k_ ∧ k_ < w21.heap.size) v0_ h0 from Kd.R_mono (Kd.R_lower (Kd.R_bound ho0) HB.out.size) (fun k_ hk_ => ⟨hk_.2.1, hk_.2.2.1⟩)); obtain ⟨A_h0, c_h0, e_h0⟩ := Kd.R_slice ho0; subst e_h0; clear ho0; have Z21 := Aside0.mk (show w20.heap.size ≤ w21.heap.size from hb.size); have HB' := Aside0.mk (below_step (by repeat (first | (with_reducible first | exact HB.out | apply below_alloc | apply pw_below_drewN | apply below_drew1) | exact HB.out)) hb); clear HB; have HB := HB'; clear HB'; clear H_w0; clear H_e0; clear H_d0; clear H_d1; have H_w0 := H_w0'; clear H_w0'; have H_e0 := H_e0'; clear H_e0'; have H_d0 := H_d0'; clear H_d0'; have H_d1 := H_d1'; clear H_d1'; clear H_d0; clear H_d1; clear E29) | (go_at_call 23; (with_reducible refine (laws_eqStringS.calls (hr0 := (Kd.R_reads' (by first | exact H_h0.out | exact Kd.R_drewN H_h0.out _)).2.2) (hc0 := (Kd.R_reads' H_h0.out).2.1) (hr1 := (Kd.R_reads' (by first | exact H_w0.out | exact Kd.R_drewN H_w0.out _)).2.2) (hc1 := (Kd.R_reads' H_w0.out).2.1) (h := E30.out)).mono ?_); rintro e w22 ⟨rfl, hd⟩; (first | have hb := below_of hd | have hb := hd); clear hd; have Z22 := Aside0.mk (show w21.heap.size ≤ w22.heap.size from hb.size); have HB' := Aside0.mk (below_step (by repeat (first | (with_reducible first | exact HB.out | apply below_alloc | apply pw_below_drewN | apply below_drew1) | exact HB.out)) hb); clear HB; have HB := HB'; clear HB'; have H_w0' := Aside0.mk (Kd.R_below (by first | exact H_w0.out | exact Kd.R_drewN H_w0.out _) hb); have H_e0' := Aside0.mk (Kd.R_below (by first | exact H_e0.out | exact Kd.R_drewN H_e0.out _) hb); have H_h0' := Aside0.mk (Kd.R_below (by first | exact H_h0.out | exact Kd.R_drewN H_h0.out _) hb); clear H_w0; clear H_e0; clear H_h0; have H_w0 := H_w0'; clear H_w0'; have H_e0 := H_e0'; clear H_e0'; have H_h0 := H_h0'; clear H_h0'; clear H_w0; clear H_h0; clear E30) | (go_at_call 27; (with_reducible refine (laws_heldStringS.calls (hr0 := (Kd.R_reads' (by first | exact H_e0.out | exact Kd.R_drewN H_e0.out _)).2.2) (hc0 := (Kd.R_reads' H_e0.out).2.1) (h := E32.out)).mono ?_); rintro e w23 ⟨rfl, hd⟩; (first | have hb := below_of hd | have hb := hd); clear hd; have Z23 := Aside0.mk (show w22.heap.size ≤ w23.heap.size from hb.size); have HB' := Aside0.mk (below_step (by repeat (first | (with_reducible first | exact HB.out | apply below_alloc | apply pw_below_drewN | apply below_drew1) | exact HB.out)) hb); clear HB; have HB := HB'; clear HB'; have H_e0' := Aside0.mk (Kd.R_below (by first | exact H_e0.out | exact Kd.R_drewN H_e0.out _) hb); clear H_e0; have H_e0 := H_e0'; clear H_e0'; clear H_e0; clear E32))
  go_ret
  exact ⟨rfl, by repeat (first | (with_reducible first | exact HB.out | apply below_alloc | apply pw_below_drewN | apply below_drew1) | exact HB.out)⟩

/-- THE ONE PURE STATEMENT of laws_FnExactFailing: yours. -/
def laws_FnExactFailing.Pure : Prop := ∀ (l0 : List (S65)) (l1 : List ByteArray), (l0.length ≤ maxLen ∧ ∀ y0 ∈ l0, (y0.f0.size ≤ maxLen ∧ (y0.f1.length ≤ maxLen ∧ ∀ y1 ∈ y0.f1, y1.size ≤ maxLen) ∧ (y0.f2.length ≤ maxLen ∧ ∀ y1 ∈ y0.f2, y1.size ≤ maxLen) ∧ y0.f3.size ≤ maxLen ∧ True)) → (l1.length ≤ maxLen ∧ ∀ y0 ∈ l1, y0.size ≤ maxLen) → ∃ k, laws_FnExactFailing.f k l0 l1 = some true
theorem laws_FnExactFailing.walk (P : laws_FnExactFailing.Pure) (A0 : Option Addr) (c0 : Nat) (l0 : List (S65)) (A1 : Option Addr) (c1 : Nat) (l1 : List ByteArray) (w : World) (hr0 : Kd.C k65 w A0 l0.length l0) (hc0 : l0.length ≤ c0) (hr1 : Kd.C Kd.string w A1 l1.length l1) (hc1 : l1.length ≤ c1) (ok0 : (l0.length ≤ maxLen ∧ ∀ y0 ∈ l0, (y0.f0.size ≤ maxLen ∧ (y0.f1.length ≤ maxLen ∧ ∀ y1 ∈ y0.f1, y1.size ≤ maxLen) ∧ (y0.f2.length ≤ maxLen ∧ ∀ y1 ∈ y0.f2, y1.size ≤ maxLen) ∧ y0.f3.size ≤ maxLen ∧ True))) (ok1 : (l1.length ≤ maxLen ∧ ∀ y0 ∈ l1, y0.size ≤ maxLen)) :
    Calls Try.prog 5 #[.slice A0 l0.length c0, .slice A1 l1.length c1] w fun e w' => e = .returned (.bool true) ∧ Below w.heap.size w w' := by
  obtain ⟨k, h⟩ := P l0 l1 ok0 ok1
  refine (laws_FnExactFailing.calls k _ _ l0 _ _ l1 true w hr0 hc0 hr1 hc1 h).mono ?_
  rintro e w' ⟨rfl, hd⟩
  exact ⟨rfl, hd⟩
end Go.Proofs.Ytnahkojlamficaa.PFnExactFailing
