-- Laid by a program of this session: a turned copy of the kit's print, with contracts by hand beside.
import Derived.Test.YtnahkojlamficaaPFnExactPlanUnitsx0
import Derived.Test.YtnahkojlamficaaPFnExactPlanUnitsx2
namespace Go.Proofs.Ytnahkojlamficaa.PFnExactPlanUnits
open Go.RowKit Go.Proofs.YtnahkojlamficaaW.PrintWords Go.Proofs.YtnahkojlamficaaW.PrintLast Go.Proofs.YtnahkojlamficaaW.PrintMore
theorem zd0 {X : Prop} (h : X := by first | rfl | (simp; done) | (simp [*]; done)) : X := h
theorem zd1 {A0 X : Prop} (a0 : A0) (h : A0 → X := by intro a0_; (with_reducible repeat (first | apply Kd.R_alloc | apply Kd.R_drewN | apply Kd.R_drew)); exact a0_) : X := h a0
theorem zd2 {X : Prop} (h : X := by repeat (first | (with_reducible first | exact HK.out | apply Kept.alloc | apply Kept.drewN | apply Kept.drew) | exact HK.out)) : X := h
theorem zd3 {X : Prop} (h : X := by repeat (first | (with_reducible first | exact HB.out | apply below_alloc | apply pw_below_drewN | apply below_drew1) | exact HB.out)) : X := h
theorem zd4 {X : Prop} (h : X := by (try simp only [List.map_toArray, List.map_cons, List.map_nil]); first | done | rfl | (simp only [List.length_drop, List.length_take]; rfl)) : X := h
theorem zd5 {X : Prop} (h : X := by first | (with_reducible assumption) | assumption) : X := h
theorem zd6 {X : Prop} (h : X := by first | rfl | (simp [errW_none, errW_some] <;> rfl) | (simp [*, errW_none, errW_some] <;> rfl)) : X := h
theorem zd7 {X : Prop} (h : X := by have h_ : (x5_1 : Int) < ((x0_1.length : Int) : Int) := of_decide_eq_true (by first | (with_reducible assumption) | assumption); first | exact h_ | (have e_ := (Kd.R_reads' HO_0.out).1; omega) | simpa using h_) : X := h
theorem zd8 {X : Prop} (h : X := by repeat (first | exact Drawn0.refl _ | apply Drawn0.step)) : X := h
attribute [local go_sem] max2_int min2_int max_two min_two max_three min_three max_four min_four   -- for this text's walks alone
set_option linter.unusedVariables false
set_option linter.unusedSimpArgs false

/-! ### laws_markStringS: function 25 -/
def laws_markStringS.l0 : Nat → List ByteArray → Int → Int → Option (Int × List ByteArray)
 | 0, _, _, _ => none
 | k + 1, x0, x1, x5 => if x5 < (x0.length : Int) then ((laws_markText.f k x1).bind fun t152 => (if 0 ≤ x5 then (laws_markStringS.l0 k (x0.set (x5 : Int).toNat t152) (wrap64 (x1 + 1)) (wrap64 (x5 + 1))) else (none))) else (some (x1, x0))
def laws_markStringS.f (k : Nat) (l0 : List ByteArray) (a1 : Int) : Option (Int × List ByteArray) := laws_markStringS.l0 k l0 a1 0
theorem laws_markStringS.mono_l : ∀ k, (∀ y0 y1 y2, LeO (laws_markStringS.l0 k y0 y1 y2) (laws_markStringS.l0 (k + 1) y0 y1 y2))
 | 0 => fun _ _ _ r h => by simp [laws_markStringS.l0] at h
 | k + 1 => by
  have ih0 := laws_markStringS.mono_l k
  ·intro y0 y1 y2; unfold laws_markStringS.l0
   repeat' first
   | (with_reducible exact ih0 _ _ _)
   | (with_reducible exact laws_markText.mono _ _)
   | (with_reducible exact LeO.refl _)
   | (with_reducible exact LeO.none _)
   | (with_reducible refine LeO.ite ?_ ?_)
   | (with_reducible refine LeO.bind ?_ (fun _ => ?_))
   | exact ih0 _ _ _
   | exact laws_markText.mono _ _
   | exact LeO.none _
   | refine LeO.ite ?_ ?_
   | refine LeO.bind ?_ (fun _ => ?_)
theorem laws_markStringS.mono : ∀ a0 a1 k, LeO (laws_markStringS.f k a0 a1) (laws_markStringS.f (k + 1) a0 a1) := by
 intro a0 a1 k; have ih0 := laws_markStringS.mono_l k; unfold laws_markStringS.f
 repeat' first
   | (with_reducible exact ih0 _ _ _)
   | (with_reducible exact laws_markText.mono _ _)
   | (with_reducible exact LeO.refl _)
   | (with_reducible exact LeO.none _)
   | (with_reducible refine LeO.ite ?_ ?_)
   | (with_reducible refine LeO.bind ?_ (fun _ => ?_))
   | exact ih0 _ _ _
   | exact laws_markText.mono _ _
   | exact LeO.none _
   | refine LeO.ite ?_ ?_
   | refine LeO.bind ?_ (fun _ => ?_)
set_option maxHeartbeats 8000000 in
set_option maxRecDepth 100000 in
theorem laws_markStringS.calls (k : Nat) (P0_ : Nat → Prop) (u9000_ : Value) (l0 : List ByteArray) (a1 : Int) (r1 : Int) (r2 : List ByteArray) (w0 w : World) (hB : Below w0.heap.size w0 w) (ho0 : Kd.R Kd.string 9 w w0.heap.size P0_ u9000_ l0) (h : laws_markStringS.f k l0 a1 = some (r1, r2)) :
  Calls Try.prog 25 #[u9000_, .int .i64 a1] w fun e w' => e = .returned (.int .i64 r1) ∧ Kd.R Kd.string 9 w' w0.heap.size (fun k_ => (P0_ k_ ∨ w.heap.size ≤ k_)) u9000_ r2 ∧ Below w0.heap.size w0 w' ∧ Kept w w' (fun k_ => P0_ k_) := by
 have HO0 := Aside0.mk (show Kd.R Kd.string 9 w w0.heap.size (fun k_ => (P0_ k_ ∨ w.heap.size ≤ k_)) u9000_ l0 from Kd.R_mono ho0 (fun k_ hk => (.inl hk))); have HK := Aside0.mk (Kept.refl w (fun k_ => P0_ k_)); have HW0 := Aside0.mk hB.size; have HB := Aside0.mk hB; clear hB; have H : (laws_markStringS.l0 k l0 a1 0) = some (r1, r2) := h; clear h; have H' := Aside0.mk H; clear H; go_enter Try.func25, Try.ntmps25; go_wp2; go_loopg [1, 5] k (fun kq v1 v5 w' => ∃ (x0_1 : List ByteArray) (x1_1 : Int) (x5_1 : Int), v1 = .int .i64 x1_1 ∧ v5 = .int .i64 x5_1 ∧ Aside0 (laws_markStringS.l0 kq x0_1 x1_1 x5_1 = some (r1, r2)) ∧ Aside0 (kq ≤ k) ∧ Aside0 (Kd.R Kd.string 9 w' w0.heap.size (fun k_ => (P0_ k_ ∨ w.heap.size ≤ k_)) u9000_ x0_1) ∧ Aside0 (Kept w w' (fun k_ => P0_ k_)) ∧ Aside0 (Below w0.heap.size w0 w')); (case atStart => exact ⟨(l0), (a1), (0), zd0, zd0, H', ⟨Nat.le_refl _⟩, ⟨zd1 HO0.out⟩, ⟨zd2⟩, ⟨zd3⟩⟩); case round =>
  clear H'; (try clear c2); (try clear p2); obtain ⟨x0_1, x1_1, x5_1, rfl, rfl, HA, HK1, HO_0, HK, HB⟩ := hrel
  cases gk with
  | zero => exact absurd HA.out (by simp [laws_markStringS.l0])
  | succ k1 =>
   have H := HA.out; clear HA; simp only [laws_markStringS.l0] at H; by_cases c3 : x5_1 < (x0_1.length : Int)
   ·rw [if_pos c3] at H; have c3b0 : decide (x5_1 < (x0_1.length : Int)) = true := decide_eq_true c3; clear c3; replace H := Option.bind_eq_some_iff.mp H; obtain ⟨t152, A40, H⟩ := H; have A4 := Aside0.mk A40; clear A40; by_cases c5 : 0 ≤ x5_1
    ·rw [if_pos c5] at H; have c5b0 : decide (0 ≤ x5_1) = true := decide_eq_true c5; clear c5; obtain ⟨y153, hy153⟩ : ∃ y_ : List ByteArray, y_ = (x0_1.set (x5_1 : Int).toNat t152) := ⟨_, rfl⟩; replace H : (laws_markStringS.l0 k1 y153 (wrap64 (x1_1 + 1)) (wrap64 (x5_1 + 1))) = some (r1, r2) := by first | (rw [hy153]; with_reducible exact H) | (have H2_ := (Option.bind_some _ _).symm.trans H; rw [hy153]; with_reducible exact H2_) | (have H2_ := (Option.bind_some _ _).symm.trans H; with_reducible exact H2_) | with_reducible exact H | (rw [hy153]; exact H) | exact H
     have Ny153 := Aside0.mk hy153; clear hy153; have H' := Aside0.mk H; clear H; obtain ⟨Ao7, co7, eo7⟩ := Kd.R_slice HO_0.out; subst eo7; go_wp2_with (first | ((with_reducible refine gate_callee (f := 59) rfl ?_); refine goesL_ (some 15) rfl rfl Try.func59 (by kernel_rfl) rfl #[.int .i64 x1_1] rfl zd4 ?_; (with_reducible refine (laws_markText.calls k1 x1_1 t152 _ A4.out).mono ?_); rintro e w8 ⟨rfl, hb⟩; refine ⟨_, rfl, ?_⟩; replace HO_0 := Aside0.mk (Kd.R_below (zd1 HO_0.out) hb); replace HK := Aside0.mk (Kept.below (S := (fun k_ => P0_ k_)) zd2 hb); replace HB := Aside0.mk (below_step qB hb); (try clear hb); (try clear hb2); (try clear hk); (try clear hi); have p6 : 0 ≤ (x5_1 : Int) := of_decide_eq_true zd5; have q6 : (x5_1 : Int) < ((x0_1.length : Int) : Int) := of_decide_eq_true zd5; obtain ⟨go6, co6, eo6, gb6, gl6, cl6, HG6⟩ := Kd.R_form HO_0.out (by omega); (first | cases eo6 | (injection eo6 with ea_ en_ ec_; (first | subst ea_ | (injection ea_ with ea_; subst ea_)); subst ec_; clear en_)); have GB6 := Aside0.mk gb6; have GG6 := Aside0.mk HG6; clear gb6 gl6 HG6; have HMgo6 := Aside0.mk (show (P0_ go6 ∨ w.heap.size ≤ go6) from (HO_0.out.1 _ rfl)); obtain ⟨hx6_0, hf6_0⟩ := Kd.R_celln (⟨#[]⟩ : ByteArray) HO_0.out (x5_1 : Int) p6 q6; replace p6 := eq_true p6; replace q6 := eq_true q6; obtain ⟨hy9_, hz9_⟩ := Kd.R_celln (⟨#[]⟩ : ByteArray) HO_0.out (x5_1 : Int) (of_decide_eq_true zd5) (of_decide_eq_true zd5); have HP9 := Kd.R_putg HO_0.out (x5_1 : Int) t152) | ((with_reducible refine gate_store (t := 9) (p := 16) rfl ?_); refine store_event (t := 9) (p := 16) (v := ?vo_w10) (w1 := (w8.setCell ⟨go6, (x5_1 : Int).toNat, none⟩ (.string t152))) ?hg ?ho ?hn ?hr ?_; (case ho => rfl); (case hg => rfl); (case hn => rfl); (case hr => first | (go_simp; done) | (go_simp; rfl)); intro w10 hw; have hg : w8.grownBy w10 (some go6) := (by rw [hw]; exact HP9.2); have hp_ : Kd.R Kd.string 9 w10 w0.heap.size (fun k_ => (P0_ k_ ∨ w.heap.size ≤ k_)) (.slice (some ⟨go6, 0, none⟩) x0_1.length co7) y153 := (by rw [hw, Ny153.out]; exact HP9.1); clear HP9; replace HB := Aside0.mk ((by rw [hw]; exact below_set (HB.out) GB6.out : Below w0.heap.size w0 w10)); replace HK := Aside0.mk (Kept.of_grown (S := (fun k_ => P0_ k_)) hg zd2 (fun k_ e_ => (HO_0.out.1 k_ e_))); replace HO_0 := Aside0.mk (hp_); clear hg hw hp_)); go_roundg k1; (case measure => have := HK1.out; omega); case rel => exact ⟨(y153), (wrap64 (x1_1 + 1)), (wrap64 (x5_1 + 1)), zd0, zd0, H', ⟨by have := HK1.out; omega⟩, ⟨zd1 HO_0.out⟩, ⟨zd2⟩, ⟨zd3⟩⟩
    ·rw [if_neg c5] at H; exact absurd H (by simp)
   ·rw [if_neg c3] at H; have c3b0 : decide (x5_1 < (x0_1.length : Int)) = false := decide_eq_false c3; clear c3; simp only [Option.some.injEq, Prod.mk.injEq] at H; obtain ⟨rfl, rfl⟩ := H; obtain ⟨Ao11, co11, eo11⟩ := Kd.R_slice HO_0.out; subst eo11; go_wp2; go_ret; exact ⟨zd6, zd1 HO_0.out, zd3, zd2⟩

/-! ### laws_markActS: function 26 -/
def laws_markActS.l0 : Nat → List (S62) → Int → Int → Option (Int × (List (S62)))
 | 0, _, _, _ => none
 | k + 1, x0, x1, x5 => if x5 < (x0.length : Int) then (if 0 ≤ x5 then ((some (x0.set (x5 : Int).toNat (⟨x1, (rd_T62 x0 x5).f1⟩ : S62) : List (S62))).bind fun y154 => ((laws_markText.f k (wrap64 (x1 + 1))).bind fun t155 => (laws_markActS.l0 k (y154.set (x5 : Int).toNat (⟨(rd_T62 y154 x5).f0, t155⟩ : S62)) (wrap64 ((wrap64 (x1 + 1)) + 1)) (wrap64 (x5 + 1))))) else (none)) else (some (x1, x0))
def laws_markActS.f (k : Nat) (l0 : List (S62)) (a1 : Int) : Option (Int × (List (S62))) := laws_markActS.l0 k l0 a1 0
theorem laws_markActS.mono_l : ∀ k, (∀ y0 y1 y2, LeO (laws_markActS.l0 k y0 y1 y2) (laws_markActS.l0 (k + 1) y0 y1 y2))
 | 0 => fun _ _ _ r h => by simp [laws_markActS.l0] at h
 | k + 1 => by
  have ih0 := laws_markActS.mono_l k
  ·intro y0 y1 y2; unfold laws_markActS.l0
   repeat' first
   | (with_reducible exact ih0 _ _ _)
   | (with_reducible exact laws_markText.mono _ _)
   | (with_reducible exact LeO.refl _)
   | (with_reducible exact LeO.none _)
   | (with_reducible refine LeO.ite ?_ ?_)
   | (with_reducible refine LeO.bind ?_ (fun _ => ?_))
   | exact ih0 _ _ _
   | exact laws_markText.mono _ _
   | exact LeO.none _
   | refine LeO.ite ?_ ?_
   | refine LeO.bind ?_ (fun _ => ?_)
theorem laws_markActS.mono : ∀ a0 a1 k, LeO (laws_markActS.f k a0 a1) (laws_markActS.f (k + 1) a0 a1) := by
 intro a0 a1 k; have ih0 := laws_markActS.mono_l k; unfold laws_markActS.f
 repeat' first
   | (with_reducible exact ih0 _ _ _)
   | (with_reducible exact laws_markText.mono _ _)
   | (with_reducible exact LeO.refl _)
   | (with_reducible exact LeO.none _)
   | (with_reducible refine LeO.ite ?_ ?_)
   | (with_reducible refine LeO.bind ?_ (fun _ => ?_))
   | exact ih0 _ _ _
   | exact laws_markText.mono _ _
   | exact LeO.none _
   | refine LeO.ite ?_ ?_
   | refine LeO.bind ?_ (fun _ => ?_)
set_option maxHeartbeats 8000000 in
set_option maxRecDepth 100000 in
theorem laws_markActS.calls (k : Nat) (P0_ : Nat → Prop) (u9000_ : Value) (l0 : List (S62)) (a1 : Int) (r1 : Int) (r2 : List (S62)) (w0 w : World) (hB : Below w0.heap.size w0 w) (ho0 : Kd.R k62 62 w w0.heap.size P0_ u9000_ l0) (h : laws_markActS.f k l0 a1 = some (r1, r2)) :
  Calls Try.prog 26 #[u9000_, .int .i64 a1] w fun e w' => e = .returned (.int .i64 r1) ∧ Kd.R k62 62 w' w0.heap.size (fun k_ => (P0_ k_ ∨ w.heap.size ≤ k_)) u9000_ r2 ∧ Below w0.heap.size w0 w' ∧ Kept w w' (fun k_ => P0_ k_) := by
 have HO0 := Aside0.mk (show Kd.R k62 62 w w0.heap.size (fun k_ => (P0_ k_ ∨ w.heap.size ≤ k_)) u9000_ l0 from Kd.R_mono ho0 (fun k_ hk => (.inl hk))); have HK := Aside0.mk (Kept.refl w (fun k_ => P0_ k_)); have HW0 := Aside0.mk hB.size; have HB := Aside0.mk hB; clear hB; have H : (laws_markActS.l0 k l0 a1 0) = some (r1, r2) := h; clear h; have H' := Aside0.mk H; clear H; go_enter Try.func26, Try.ntmps26; go_wp2; go_loopg [1, 5] k (fun kq v1 v5 w' => ∃ (x0_1 : List (S62)) (x1_1 : Int) (x5_1 : Int), v1 = .int .i64 x1_1 ∧ v5 = .int .i64 x5_1 ∧ Aside0 (laws_markActS.l0 kq x0_1 x1_1 x5_1 = some (r1, r2)) ∧ Aside0 (kq ≤ k) ∧ Aside0 (Kd.R k62 62 w' w0.heap.size (fun k_ => (P0_ k_ ∨ w.heap.size ≤ k_)) u9000_ x0_1) ∧ Aside0 (Kept w w' (fun k_ => P0_ k_)) ∧ Aside0 (Below w0.heap.size w0 w')); (case atStart => exact ⟨(l0), (a1), (0), zd0, zd0, H', ⟨Nat.le_refl _⟩, ⟨zd1 HO0.out⟩, ⟨zd2⟩, ⟨zd3⟩⟩); case round =>
  clear H'; (try clear c2); (try clear p2); obtain ⟨x0_1, x1_1, x5_1, rfl, rfl, HA, HK1, HO_0, HK, HB⟩ := hrel
  cases gk with
  | zero => exact absurd HA.out (by simp [laws_markActS.l0])
  | succ k1 =>
   have H := HA.out; clear HA; simp only [laws_markActS.l0] at H; by_cases c3 : x5_1 < (x0_1.length : Int)
   ·rw [if_pos c3] at H; have c3b0 : decide (x5_1 < (x0_1.length : Int)) = true := decide_eq_true c3; clear c3; by_cases c4 : 0 ≤ x5_1
    ·rw [if_pos c4] at H; have c4b0 : decide (0 ≤ x5_1) = true := decide_eq_true c4; clear c4; obtain ⟨y154, hy154⟩ : ∃ y_ : List (S62), y_ = (x0_1.set (x5_1 : Int).toNat (⟨x1_1, (rd_T62 x0_1 x5_1).f1⟩ : S62)) := ⟨_, rfl⟩; replace H : ((laws_markText.f k1 (wrap64 (x1_1 + 1))).bind fun t155 => (laws_markActS.l0 k1 (y154.set (x5_1 : Int).toNat (⟨(rd_T62 y154 x5_1).f0, t155⟩ : S62)) (wrap64 ((wrap64 (x1_1 + 1)) + 1)) (wrap64 (x5_1 + 1)))) = some (r1, r2) := by first | (rw [hy154]; with_reducible exact H) | (have H2_ := (Option.bind_some _ _).symm.trans H; rw [hy154]; with_reducible exact H2_) | (have H2_ := (Option.bind_some _ _).symm.trans H; with_reducible exact H2_) | with_reducible exact H | (rw [hy154]; exact H) | exact H
     have Ny154 := Aside0.mk hy154; clear hy154; replace H := Option.bind_eq_some_iff.mp H; obtain ⟨t155, A60, H⟩ := H; have A6 := Aside0.mk A60; clear A60; obtain ⟨y156, hy156⟩ : ∃ y_ : List (S62), y_ = (y154.set (x5_1 : Int).toNat (⟨(rd_T62 y154 x5_1).f0, t155⟩ : S62)) := ⟨_, rfl⟩; replace H : (laws_markActS.l0 k1 y156 (wrap64 ((wrap64 (x1_1 + 1)) + 1)) (wrap64 (x5_1 + 1))) = some (r1, r2) := by first | (rw [hy156]; with_reducible exact H) | (have H2_ := (Option.bind_some _ _).symm.trans H; rw [hy156]; with_reducible exact H2_) | (have H2_ := (Option.bind_some _ _).symm.trans H; with_reducible exact H2_) | with_reducible exact H | (rw [hy156]; exact H) | exact H
     have Ny156 := Aside0.mk hy156; clear hy156; have H' := Aside0.mk H; clear H; obtain ⟨Ao8, co8, eo8⟩ := Kd.R_slice HO_0.out; subst eo8; have p5 : 0 ≤ (x5_1 : Int) := of_decide_eq_true zd5; have q5 : (x5_1 : Int) < ((x0_1.length : Int) : Int) := of_decide_eq_true zd5; obtain ⟨go5, co5, eo5, gb5, gl5, cl5, HG5⟩ := Kd.R_form HO_0.out (by omega); (first | cases eo5 | (injection eo5 with ea_ en_ ec_; (first | subst ea_ | (injection ea_ with ea_; subst ea_)); subst ec_; clear en_)); have GB5 := Aside0.mk gb5; have GG5 := Aside0.mk HG5; clear gb5 gl5 HG5; have HMgo5 := Aside0.mk (show (P0_ go5 ∨ w.heap.size ≤ go5) from (HO_0.out.1 _ rfl)); obtain ⟨ce5, hcl5, hM5, hcc5, hfr5⟩ := Kd.R_elem HO_0.out z62 (x5_1 : Int) p5 q5; obtain rfl := k62_openM hM5; have hx5_0 : wr.cell? ⟨go5, (x5_1 : Int).toNat * 2, none⟩ = some (.int .i64 ((rd_T62 x0_1 x5_1).f0)) := hcc5 0 _ rfl; have hx5_1 : wr.cell? ⟨go5, (x5_1 : Int).toNat * 2 + 1, none⟩ = some (.string ((rd_T62 x0_1 x5_1).f1)) := hcc5 1 _ rfl; have hf5_0 : wr.frozen? ⟨go5, (x5_1 : Int).toNat * 2, none⟩ = false := hfr5 0; have hf5_1 : wr.frozen? ⟨go5, (x5_1 : Int).toNat * 2 + 1, none⟩ = false := hfr5 1; clear hcl5 hcc5 hfr5 hM5; replace p5 := eq_true p5; replace q5 := eq_true q5; have HX9 := Aside0.mk (show Kd.R k62 62 wr w0.heap.size (fun k_ => (P0_ k_ ∨ w.heap.size ≤ k_)) (.slice (some ⟨go5, 0, none⟩) x0_1.length co8) x0_1 from (zd1 HO_0.out)); obtain ⟨ce9, hcl9, hM9, hcc9, hfr9⟩ := Kd.R_elem HX9.out z62 (x5_1 : Int) (of_decide_eq_true zd5) zd7; obtain rfl := k62_openM hM9; have HP9 := Kd.R_seg HX9.out (x5_1 : Int) (of_decide_eq_true zd5) zd7 (seg := [.int .i64 x1_1]) (j := 0) hcl9 hcc9 (show 1 ≤ 2 from by decide) (x' := (⟨x1_1, (rd_T62 x0_1 x5_1).f1⟩ : S62)) (k62_mkM _ _ _ (⟨x1_1, (rd_T62 x0_1 x5_1).f1⟩ : S62) ) (fun _ hk => hk); have hx9_0 := hcc9 0 _ rfl; (try simp only [show (k62).sz = 2 from rfl, Nat.mul_one, Nat.add_zero] at hx9_0); have hf9_0 := hfr9 0; (try simp only [show (k62).sz = 2 from rfl, Nat.mul_one, Nat.add_zero] at hf9_0); clear hcl9 hcc9 hfr9 hM9; go_wp2_with (first | ((with_reducible refine gate_store (t := 2) (p := 16) rfl ?_); refine store_event (t := 2) (p := 16) (v := ?vo_w10) (w1 := (wr.setCell ⟨go5, (x5_1 : Int).toNat * 2, none⟩ (.int .i64 x1_1))) ?hg ?ho ?hn ?hr ?_; (case ho => rfl); (case hg => rfl); (case hn => rfl); (case hr => first | (go_simp; done) | (go_simp; rfl)); intro w10 hw; have hg : wr.grownBy w10 (some go5) := (by rw [hw]; exact HP9.2); have hp_ : Kd.R k62 62 w10 w0.heap.size (fun k_ => (P0_ k_ ∨ w.heap.size ≤ k_)) (.slice (some ⟨go5, 0, none⟩) x0_1.length co8) y154 := (by rw [hw, Ny154.out]; exact HP9.1); clear HP9; replace HB := Aside0.mk ((by rw [hw]; exact below_set (HB.out) GB5.out : Below w0.heap.size w0 w10)); replace HK := Aside0.mk (Kept.of_grown (S := (fun k_ => P0_ k_)) hg zd2 (fun k_ e_ => (HO_0.out.1 k_ e_))); replace HO_0 := Aside0.mk (hp_); clear hg hw hp_) | ((with_reducible refine gate_callee (f := 59) rfl ?_); refine goesL_ (some 22) rfl rfl Try.func59 (by kernel_rfl) rfl #[.int .i64 (wrap64 (x1_1 + 1))] rfl zd4 ?_; (with_reducible refine (laws_markText.calls k1 (wrap64 (x1_1 + 1)) t155 _ A6.out).mono ?_); rintro e w11 ⟨rfl, hb⟩; refine ⟨_, rfl, ?_⟩; replace HO_0 := Aside0.mk (Kd.R_below (zd1 HO_0.out) hb); replace HK := Aside0.mk (Kept.below (S := (fun k_ => P0_ k_)) zd2 hb); replace HB := Aside0.mk (below_step qB hb); (try clear hb); (try clear hb2); (try clear hk); (try clear hi); have p7 : 0 ≤ (x5_1 : Int) := of_decide_eq_true zd5; have q7 : (x5_1 : Int) < ((x0_1.length : Int) : Int) := of_decide_eq_true zd5; obtain ⟨ce7, hcl7, hM7, hcc7, hfr7⟩ := Kd.R_elem HO_0.out z62 (x5_1 : Int) p7 q7; obtain rfl := k62_openM hM7; have hx7_0 : w11.cell? ⟨go5, (x5_1 : Int).toNat * 2, none⟩ = some (.int .i64 ((rd_T62 y154 x5_1).f0)) := hcc7 0 _ rfl; have hx7_1 : w11.cell? ⟨go5, (x5_1 : Int).toNat * 2 + 1, none⟩ = some (.string ((rd_T62 y154 x5_1).f1)) := hcc7 1 _ rfl; have hf7_0 : w11.frozen? ⟨go5, (x5_1 : Int).toNat * 2, none⟩ = false := hfr7 0; have hf7_1 : w11.frozen? ⟨go5, (x5_1 : Int).toNat * 2 + 1, none⟩ = false := hfr7 1; clear hcl7 hcc7 hfr7 hM7; replace p7 := eq_true p7; replace q7 := eq_true q7; have HX12 := Aside0.mk (show Kd.R k62 62 w11 w0.heap.size (fun k_ => (P0_ k_ ∨ w.heap.size ≤ k_)) (.slice (some ⟨go5, 0, none⟩) x0_1.length co8) y154 from (zd1 HO_0.out)); obtain ⟨ce12, hcl12, hM12, hcc12, hfr12⟩ := Kd.R_elem HX12.out z62 (x5_1 : Int) (of_decide_eq_true zd5) zd7; obtain rfl := k62_openM hM12; have HP12 := Kd.R_seg HX12.out (x5_1 : Int) (of_decide_eq_true zd5) zd7 (seg := [.string t155]) (j := 1) hcl12 hcc12 (show 2 ≤ 2 from by decide) (x' := (⟨(rd_T62 y154 x5_1).f0, t155⟩ : S62)) (k62_mkM _ _ _ (⟨(rd_T62 y154 x5_1).f0, t155⟩ : S62) ) (fun _ hk => hk); have hx12_1 := hcc12 1 _ rfl; (try simp only [show (k62).sz = 2 from rfl, Nat.mul_one, Nat.add_zero] at hx12_1); have hf12_1 := hfr12 1; (try simp only [show (k62).sz = 2 from rfl, Nat.mul_one, Nat.add_zero] at hf12_1); clear hcl12 hcc12 hfr12 hM12) | ((with_reducible refine gate_store (t := 9) (p := 24) rfl ?_); refine store_event (t := 9) (p := 24) (v := ?vo_w13) (w1 := (w11.setCell ⟨go5, (x5_1 : Int).toNat * 2 + 1, none⟩ (.string t155))) ?hg ?ho ?hn ?hr ?_; (case ho => rfl); (case hg => rfl); (case hn => rfl); (case hr => first | (go_simp; done) | (go_simp; rfl)); intro w13 hw; have hg : w11.grownBy w13 (some go5) := (by rw [hw]; exact HP12.2); have hp_ : Kd.R k62 62 w13 w0.heap.size (fun k_ => (P0_ k_ ∨ w.heap.size ≤ k_)) (.slice (some ⟨go5, 0, none⟩) x0_1.length co8) y156 := (by rw [hw, Ny156.out]; exact HP12.1); clear HP12; replace HB := Aside0.mk ((by rw [hw]; exact below_set (HB.out) GB5.out : Below w0.heap.size w0 w13)); replace HK := Aside0.mk (Kept.of_grown (S := (fun k_ => P0_ k_)) hg zd2 (fun k_ e_ => (HO_0.out.1 k_ e_))); replace HO_0 := Aside0.mk (hp_); clear hg hw hp_)); go_roundg k1; (case measure => have := HK1.out; omega); case rel => exact ⟨(y156), (wrap64 ((wrap64 (x1_1 + 1)) + 1)), (wrap64 (x5_1 + 1)), zd0, zd0, H', ⟨by have := HK1.out; omega⟩, ⟨zd1 HO_0.out⟩, ⟨zd2⟩, ⟨zd3⟩⟩
    ·rw [if_neg c4] at H; exact absurd H (by simp)
   ·rw [if_neg c3] at H; have c3b0 : decide (x5_1 < (x0_1.length : Int)) = false := decide_eq_false c3; clear c3; simp only [Option.some.injEq, Prod.mk.injEq] at H; obtain ⟨rfl, rfl⟩ := H; obtain ⟨Ao14, co14, eo14⟩ := Kd.R_slice HO_0.out; subst eo14; go_wp2; go_ret; exact ⟨zd6, zd1 HO_0.out, zd3, zd2⟩

/-! ### laws_markUnitS: function 30 -/
def softS : Nat → Nat → Int → Int → Option Int
  | 0, _, _, _ => none
  | k + 1, n, x1, x5 => if x5 < (n : Int) then (if 0 ≤ x5 then ((laws_markText.f k x1).bind fun _ => softS k n (wrap64 (x1 + 1)) (wrap64 (x5 + 1))) else none) else some x1
set_option maxHeartbeats 8000000 in
set_option maxRecDepth 100000 in
theorem markStringS_soft (k n : Nat) (A : Option Addr) (c : Nat) (P0_ : Nat → Prop) (a1 r1 : Int) (w0 w : World) (hB : Below w0.heap.size w0 w) (hv : StrV w w0.heap.size P0_ (.slice A n c) n) (h : softS k n a1 0 = some r1) :
    Calls Try.prog 25 #[.slice A n c, .int .i64 a1] w fun e w' => e = .returned (.int .i64 r1) ∧ Soft w w' ∧ Below w0.heap.size w0 w' ∧ Kept w w' P0_ := by
  have HV := Aside0.mk hv; have HS := Aside0.mk (Soft.refl w); have HK := Aside0.mk (Kept.refl w P0_); have HB := Aside0.mk hB; have H' := Aside0.mk h; clear hB hv h; go_enter Try.func25, Try.ntmps25; go_wp2; go_loopg [1, 5] k (fun kq v1 v5 w' => ∃ (x1_1 : Int) (x5_1 : Int), v1 = .int .i64 x1_1 ∧ v5 = .int .i64 x5_1 ∧ Aside0 (softS kq n x1_1 x5_1 = some r1) ∧ Aside0 (kq ≤ k) ∧ Aside0 (Soft w w') ∧ Aside0 (Kept w w' P0_) ∧ Aside0 (Below w0.heap.size w0 w')); (case atStart => exact ⟨a1, 0, rfl, rfl, H', ⟨Nat.le_refl _⟩, HS, HK, HB⟩); case round =>
    clear H' HB HS HK; obtain ⟨x1_1, x5_1, rfl, rfl, HA, HK1, HS, HK, HB⟩ := hrel
    cases gk with
    | zero => exact absurd HA.out (by simp [softS])
    | succ k1 =>
      have H := HA.out; clear HA; simp only [softS] at H; by_cases c3 : x5_1 < (n : Int)
      · rw [if_pos c3] at H; have c3b0 : decide (x5_1 < (n : Int)) = true := decide_eq_true c3; by_cases c4 : 0 ≤ x5_1
        · rw [if_pos c4] at H; have c4b0 : decide (0 ≤ x5_1) = true := decide_eq_true c4; replace H := Option.bind_eq_some_iff.mp H; obtain ⟨t0, E0, H⟩ := H; have T0 := Aside0.mk E0; have H' := Aside0.mk H; clear E0 H; obtain ⟨A_, c_, e_, hz_⟩ := HV.out; injection e_ with e1_ e2_ e3_; subst e1_; subst e3_; rcases hz_ with hz_ | ⟨go5, ea_, hP_, hg_, hs_⟩
          · omega
          subst ea_; have GP5 := Aside0.mk hP_; have GB5 := Aside0.mk hg_; have GS5 := Aside0.mk hs_; clear hP_ hg_ hs_ e2_; have p5 := Aside0.mk c4; have q5 := Aside0.mk c3; clear c3 c4; replace c4b1 := eq_true p5.out; replace c3b1 := eq_true q5.out; have c3b2 : (0 ≤ x5_1) = True := eq_true p5.out; go_wp2_with (first | (go_at_call 59; (with_reducible refine (laws_markText.calls (w := _) (h := T0.out)).mono ?_); rintro e wa1 ⟨rfl, hb⟩; have n1_ := Aside0.mk (HS.out.trans (Soft.of_below hb)); have n2_ := Aside0.mk (Kept.below HK.out hb); have n3_ := Aside0.mk (below_step HB.out hb); clear HS HK HB hb; have HS := n1_; have HK := n2_; have HB := n3_; clear n1_ n2_ n3_; obtain ⟨cs_, hcs_, hst_⟩ := HS.out.str _ _ GS5.out; obtain ⟨s_, hs_⟩ := hst_ x5_1.toNat (by have := q5.out; have := p5.out; omega); have hx_0 : wa1.cell? ⟨go5, x5_1.toNat, none⟩ = some (.string s_) := (blk_cell hcs_ _).trans hs_; have hf_0 : wa1.frozen? ⟨go5, x5_1.toNat, none⟩ = false := blk_frozen hcs_ _; have HC := Aside0.mk hcs_; clear hs_ hcs_ hst_) | ((with_reducible refine gate_store (t := 9) (p := 16) rfl ?_); refine store_event (t := 9) (p := 16) (v := ?vo_wa2) (w1 := (wa1.setCell ⟨go5, x5_1.toNat, none⟩ (.string t0))) ?hg ?ho ?hn ?hr ?_; (case ho => rfl); (case hg => rfl); (case hn => rfl); (case hr => first | (go_simp; done) | (go_simp; rfl)); intro wa2 hw; have n1_ := Aside0.mk (show Soft w wa2 by rw [hw]; exact HS.out.trans (Soft.put HC.out t0)); have n2_ := Aside0.mk (show Kept w wa2 P0_ by rw [hw]; exact HK.out.setCell (.inl GP5.out) _); have n3_ := Aside0.mk (show Below w0.heap.size w0 wa2 by rw [hw]; exact below_set HB.out GB5.out); clear HS HK HB hw hx_0 hf_0 HC; have HS := n1_; have HK := n2_; have HB := n3_; clear n1_ n2_ n3_)); go_roundg k1; (case measure => have := HK1.out; omega); case rel => exact ⟨_, _, rfl, rfl, H', ⟨by have := HK1.out; omega⟩, HS, HK, HB⟩
        · rw [if_neg c4] at H; exact absurd H (by simp)
      · rw [if_neg c3] at H; have c3b0 : decide (x5_1 < (n : Int)) = false := decide_eq_false c3; clear c3; obtain rfl := Option.some.inj H; go_wp2; go_ret; exact ⟨rfl, HS.out, HB.out, HK.out⟩
def laws_markUnitS.l0 : Nat → List S55 → Int → Int → Option Int
  | 0, _, _, _ => none
  | k + 1, x0, x1, x5 => if x5 < (x0.length : Int) then (if 0 ≤ x5 then ((laws_markText.f k x1).bind fun _ => (softS k (rd_T55 x0 x5).f1.length (wrap64 (x1 + 1)) 0).bind fun b1 => (softS k (rd_T55 x0 x5).f2.length b1 0).bind fun b2 => (laws_markText.f k b2).bind fun _ => laws_markUnitS.l0 k x0 (wrap64 (wrap64 (b2 + 1) + 1)) (wrap64 (x5 + 1))) else none) else some x1
def laws_markUnitS.f (k : Nat) (l0 : List S55) (a1 : Int) : Option Int := laws_markUnitS.l0 k l0 a1 0
def lensU (l : List S55) (j : Nat) : Nat × Nat := ((rd_T55 l (j : Int)).f1.length, (rd_T55 l (j : Int)).f2.length)
theorem units_soft {w : World} {B : Nat} {P : Nat → Prop} {v : Value} {l : List S55} (h : Kd.R k55 55 w B P v l) : ∃ A c, v = .slice A l.length c ∧ (l.length = 0 ∨ ∃ g, A = some ⟨g, 0, none⟩ ∧ UnB w B P 55 g l.length (lensU l)) := by
  obtain ⟨A, c, e⟩ := Kd.R_slice h; subst e; refine ⟨A, c, rfl, ?_⟩; by_cases hz : l.length = 0
  · exact .inl hz
  refine .inr ?_; obtain ⟨g, cap, e, hb, _, cells, hc⟩ := Kd.R_form h (by omega); injection e with e1 e2 e3; subst e1; refine ⟨g, rfl, h.1 g rfl, hb, cells, hc, fun j hj => ?_⟩; obtain ⟨c, hl, hM, hx, _⟩ := Kd.R_elem h z55 (j : Int) (by omega) (by omega); obtain ⟨v1, v2, rfl, g1, g2⟩ := k55_openM hM; have hx' : ∀ p u, ([.string ((l.getD j z55).f0), v1, v2, .string ((l.getD j z55).f3), .bool ((l.getD j z55).f4)] : List Value)[p]? = some u → cells[j * 5 + p]? = some u := fun p u e => by
    rw [← blk_cell hc]; exact hx p u e
  refine ⟨(Array.getElem?_eq_some_iff.1 (hx' 4 _ rfl)).1, v1, v2, hx' 1 _ rfl, hx' 2 _ rfl, ?_, ?_⟩
  · exact StrV.of_R g1 (fun _ hk => hk.1)
  · exact StrV.of_R g2 (fun _ hk => hk.1)
set_option maxHeartbeats 8000000 in
set_option maxRecDepth 100000 in
theorem laws_markUnitS.calls (k : Nat) (P0_ : Nat → Prop) (u9000_ : Value) (l0 : List S55) (a1 : Int) (r1 : Int) (w0 w : World) (hB : Below w0.heap.size w0 w) (ho0 : Kd.S k55 55 w w0.heap.size P0_ u9000_ l0) (h : laws_markUnitS.f k l0 a1 = some r1) :
    Calls Try.prog 30 #[u9000_, .int .i64 a1] w fun e w' => e = .returned (.int .i64 r1) ∧ Below w0.heap.size w0 w' ∧ Kept w w' P0_ := by
  obtain ⟨A, c, e9, hu⟩ := units_soft (Kd.S_R ho0); subst e9; have HU := Aside0.mk hu; have HK := Aside0.mk (Kept.refl w P0_); have HB := Aside0.mk hB; have H' := Aside0.mk (show laws_markUnitS.l0 k l0 a1 0 = some r1 from h); clear hB ho0 hu h; go_enter Try.func30, Try.ntmps30; go_wp2; go_loopg [1, 5] k (fun kq v1 v5 w' => ∃ (x1_1 : Int) (x5_1 : Int), v1 = .int .i64 x1_1 ∧ v5 = .int .i64 x5_1 ∧ Aside0 (laws_markUnitS.l0 kq l0 x1_1 x5_1 = some r1) ∧ Aside0 (kq ≤ k) ∧ Aside0 (l0.length = 0 ∨ ∃ g, A = some ⟨g, 0, none⟩ ∧ UnB w' w0.heap.size P0_ 55 g l0.length (lensU l0)) ∧ Aside0 (Kept w w' P0_) ∧ Aside0 (Below w0.heap.size w0 w')); (case atStart => exact ⟨a1, 0, rfl, rfl, H', ⟨Nat.le_refl _⟩, HU, HK, HB⟩); case round =>
    clear H' HB HU HK; obtain ⟨x1_1, x5_1, rfl, rfl, HA, HK1, HU, HK, HB⟩ := hrel
    cases gk with
    | zero => exact absurd HA.out (by simp [laws_markUnitS.l0])
    | succ k1 =>
      have H := HA.out; clear HA; simp only [laws_markUnitS.l0] at H; by_cases c3 : x5_1 < (l0.length : Int)
      · rw [if_pos c3] at H; have c3b0 : decide (x5_1 < (l0.length : Int)) = true := decide_eq_true c3; by_cases c4 : 0 ≤ x5_1
        · rw [if_pos c4] at H; have c4b0 : decide (0 ≤ x5_1) = true := decide_eq_true c4; replace H := Option.bind_eq_some_iff.mp H; obtain ⟨t0, E0, H⟩ := H; have T0 := Aside0.mk E0; clear E0; replace H := Option.bind_eq_some_iff.mp H; obtain ⟨b1, E0, H⟩ := H; have T1 := Aside0.mk E0; clear E0; replace H := Option.bind_eq_some_iff.mp H; obtain ⟨b2, E0, H⟩ := H; have T2 := Aside0.mk E0; clear E0; replace H := Option.bind_eq_some_iff.mp H; obtain ⟨t3, E0, H⟩ := H; have T3 := Aside0.mk E0; have H' := Aside0.mk H; clear E0 H; rcases HU.out with hz_ | ⟨go5, ea_, hU_⟩
          · omega
          subst ea_; clear HU; have HU := Aside0.mk hU_; have GP5 := Aside0.mk hU_.1; have GB5 := Aside0.mk hU_.2.1; clear hU_; have p5 := Aside0.mk c4; have q5 := Aside0.mk (show x5_1.toNat < l0.length by omega); have NN : ∀ j : Nat, j = x5_1.toNat → lensU l0 j = ((rd_T55 l0 x5_1).f1.length, (rd_T55 l0 x5_1).f2.length) := fun j hj => by
            unfold lensU; rw [hj, Int.toNat_of_nonneg p5.out]
          have HN := Aside0.mk (NN _ rfl); clear NN; replace c4b1 := eq_true c4; replace c3b1 := eq_true c3; clear c3 c4; go_wp2_with (first | (go_at_call 59; (with_reducible refine (laws_markText.calls (w := _) (h := T0.out)).mono ?_); rintro e wa1 ⟨rfl, hb⟩; have n1_ := Aside0.mk (HU.out.soft (by decide) (Soft.of_below hb)); have n2_ := Aside0.mk (Kept.below HK.out hb); have n3_ := Aside0.mk (below_step HB.out hb); clear HU HK HB hb; have HU := n1_; have HK := n2_; have HB := n3_; clear n1_ n2_ n3_; (try clear hx_0 hx_1 hx_2 hx_3 hx_4 hf_0 hf_1 hf_2 hf_3 hf_4 HV1 HV2); obtain ⟨u0_1, A1_1, c1_1, A2_1, c2_1, u3_1, u4_1, hx_0, hx_1, hx_2, hx_3, hx_4, hf_, hv1_, hv2_⟩ := HU.out.at_ x5_1.toNat q5.out; rw [HN.out] at hx_1 hx_2 hv1_ hv2_; dsimp only at hx_1 hx_2 hv1_ hv2_; have HV1 := Aside0.mk hv1_; have HV2 := Aside0.mk hv2_; have hf_0 := hf_ (x5_1.toNat * 5); have hf_1 := hf_ (x5_1.toNat * 5 + 1); have hf_2 := hf_ (x5_1.toNat * 5 + 2); have hf_3 := hf_ (x5_1.toNat * 5 + 3); have hf_4 := hf_ (x5_1.toNat * 5 + 4); clear hv1_ hv2_ hf_) | ((with_reducible refine gate_store (t := 9) (p := 17) rfl ?_); refine store_event (t := 9) (p := 17) (v := ?vo_wa2) (w1 := (wa1.setCell ⟨go5, x5_1.toNat * 5, none⟩ (.string t0))) ?hg ?ho ?hn ?hr ?_; (case ho => rfl); (case hg => rfl); (case hn => rfl); (case hr => first | (go_simp; done) | (go_simp; rfl)); intro wa2 hw; have n1_ := Aside0.mk (show UnB wa2 w0.heap.size P0_ 55 go5 l0.length (lensU l0) by rw [hw]; exact HU.out.put (by decide) x5_1.toNat 0 (by decide) (.string t0)); have n2_ := Aside0.mk (show Kept w wa2 P0_ by rw [hw]; exact HK.out.setCell (.inl GP5.out) _); have n3_ := Aside0.mk (show Below w0.heap.size w0 wa2 by rw [hw]; exact below_set HB.out GB5.out); clear HU HK HB hw; have HU := n1_; have HK := n2_; have HB := n3_; clear n1_ n2_ n3_; (try clear hx_0 hx_1 hx_2 hx_3 hx_4 hf_0 hf_1 hf_2 hf_3 hf_4 HV1 HV2); obtain ⟨u0_2, A1_2, c1_2, A2_2, c2_2, u3_2, u4_2, hx_0, hx_1, hx_2, hx_3, hx_4, hf_, hv1_, hv2_⟩ := HU.out.at_ x5_1.toNat q5.out; rw [HN.out] at hx_1 hx_2 hv1_ hv2_; dsimp only at hx_1 hx_2 hv1_ hv2_; have HV1 := Aside0.mk hv1_; have HV2 := Aside0.mk hv2_; have hf_0 := hf_ (x5_1.toNat * 5); have hf_1 := hf_ (x5_1.toNat * 5 + 1); have hf_2 := hf_ (x5_1.toNat * 5 + 2); have hf_3 := hf_ (x5_1.toNat * 5 + 3); have hf_4 := hf_ (x5_1.toNat * 5 + 4); clear hv1_ hv2_ hf_) | (go_at_call 25; (with_reducible refine (markStringS_soft _ _ _ _ P0_ _ _ w0 _ HB.out HV1.out T1.out).mono ?_); rintro e wa3 ⟨rfl, hs_, hb_, hk_⟩; have n1_ := Aside0.mk (HU.out.soft (by decide) hs_); have n2_ := Aside0.mk (Kept.then_ (S := P0_) HK.out hk_ (fun _ h_ => .inl h_)); have n3_ := Aside0.mk hb_; clear HU HK HB hs_ hk_ hb_; have HU := n1_; have HK := n2_; have HB := n3_; clear n1_ n2_ n3_; (try clear hx_0 hx_1 hx_2 hx_3 hx_4 hf_0 hf_1 hf_2 hf_3 hf_4 HV1 HV2); obtain ⟨u0_3, A1_3, c1_3, A2_3, c2_3, u3_3, u4_3, hx_0, hx_1, hx_2, hx_3, hx_4, hf_, hv1_, hv2_⟩ := HU.out.at_ x5_1.toNat q5.out; rw [HN.out] at hx_1 hx_2 hv1_ hv2_; dsimp only at hx_1 hx_2 hv1_ hv2_; have HV1 := Aside0.mk hv1_; have HV2 := Aside0.mk hv2_; have hf_0 := hf_ (x5_1.toNat * 5); have hf_1 := hf_ (x5_1.toNat * 5 + 1); have hf_2 := hf_ (x5_1.toNat * 5 + 2); have hf_3 := hf_ (x5_1.toNat * 5 + 3); have hf_4 := hf_ (x5_1.toNat * 5 + 4); clear hv1_ hv2_ hf_) | (go_at_call 25; (with_reducible refine (markStringS_soft _ _ _ _ P0_ _ _ w0 _ HB.out HV2.out T2.out).mono ?_); rintro e wa4 ⟨rfl, hs_, hb_, hk_⟩; have n1_ := Aside0.mk (HU.out.soft (by decide) hs_); have n2_ := Aside0.mk (Kept.then_ (S := P0_) HK.out hk_ (fun _ h_ => .inl h_)); have n3_ := Aside0.mk hb_; clear HU HK HB hs_ hk_ hb_; have HU := n1_; have HK := n2_; have HB := n3_; clear n1_ n2_ n3_; (try clear hx_0 hx_1 hx_2 hx_3 hx_4 hf_0 hf_1 hf_2 hf_3 hf_4 HV1 HV2); obtain ⟨u0_4, A1_4, c1_4, A2_4, c2_4, u3_4, u4_4, hx_0, hx_1, hx_2, hx_3, hx_4, hf_, hv1_, hv2_⟩ := HU.out.at_ x5_1.toNat q5.out; rw [HN.out] at hx_1 hx_2 hv1_ hv2_; dsimp only at hx_1 hx_2 hv1_ hv2_; have HV1 := Aside0.mk hv1_; have HV2 := Aside0.mk hv2_; have hf_0 := hf_ (x5_1.toNat * 5); have hf_1 := hf_ (x5_1.toNat * 5 + 1); have hf_2 := hf_ (x5_1.toNat * 5 + 2); have hf_3 := hf_ (x5_1.toNat * 5 + 3); have hf_4 := hf_ (x5_1.toNat * 5 + 4); clear hv1_ hv2_ hf_) | (go_at_call 59; (with_reducible refine (laws_markText.calls (w := _) (h := T3.out)).mono ?_); rintro e wa5 ⟨rfl, hb⟩; have n1_ := Aside0.mk (HU.out.soft (by decide) (Soft.of_below hb)); have n2_ := Aside0.mk (Kept.below HK.out hb); have n3_ := Aside0.mk (below_step HB.out hb); clear HU HK HB hb; have HU := n1_; have HK := n2_; have HB := n3_; clear n1_ n2_ n3_; (try clear hx_0 hx_1 hx_2 hx_3 hx_4 hf_0 hf_1 hf_2 hf_3 hf_4 HV1 HV2); obtain ⟨u0_5, A1_5, c1_5, A2_5, c2_5, u3_5, u4_5, hx_0, hx_1, hx_2, hx_3, hx_4, hf_, hv1_, hv2_⟩ := HU.out.at_ x5_1.toNat q5.out; rw [HN.out] at hx_1 hx_2 hv1_ hv2_; dsimp only at hx_1 hx_2 hv1_ hv2_; have HV1 := Aside0.mk hv1_; have HV2 := Aside0.mk hv2_; have hf_0 := hf_ (x5_1.toNat * 5); have hf_1 := hf_ (x5_1.toNat * 5 + 1); have hf_2 := hf_ (x5_1.toNat * 5 + 2); have hf_3 := hf_ (x5_1.toNat * 5 + 3); have hf_4 := hf_ (x5_1.toNat * 5 + 4); clear hv1_ hv2_ hf_) | ((with_reducible refine gate_store (t := 9) (p := 39) rfl ?_); refine store_event (t := 9) (p := 39) (v := ?vo_wa6) (w1 := (wa5.setCell ⟨go5, x5_1.toNat * 5 + 3, none⟩ (.string t3))) ?hg ?ho ?hn ?hr ?_; (case ho => rfl); (case hg => rfl); (case hn => rfl); (case hr => first | (go_simp; done) | (go_simp; rfl)); intro wa6 hw; have n1_ := Aside0.mk (show UnB wa6 w0.heap.size P0_ 55 go5 l0.length (lensU l0) by rw [hw]; exact HU.out.put (by decide) x5_1.toNat 3 (by decide) (.string t3)); have n2_ := Aside0.mk (show Kept w wa6 P0_ by rw [hw]; exact HK.out.setCell (.inl GP5.out) _); have n3_ := Aside0.mk (show Below w0.heap.size w0 wa6 by rw [hw]; exact below_set HB.out GB5.out); clear HU HK HB hw; have HU := n1_; have HK := n2_; have HB := n3_; clear n1_ n2_ n3_; (try clear hx_0 hx_1 hx_2 hx_3 hx_4 hf_0 hf_1 hf_2 hf_3 hf_4 HV1 HV2); obtain ⟨u0_6, A1_6, c1_6, A2_6, c2_6, u3_6, u4_6, hx_0, hx_1, hx_2, hx_3, hx_4, hf_, hv1_, hv2_⟩ := HU.out.at_ x5_1.toNat q5.out; rw [HN.out] at hx_1 hx_2 hv1_ hv2_; dsimp only at hx_1 hx_2 hv1_ hv2_; have HV1 := Aside0.mk hv1_; have HV2 := Aside0.mk hv2_; have hf_0 := hf_ (x5_1.toNat * 5); have hf_1 := hf_ (x5_1.toNat * 5 + 1); have hf_2 := hf_ (x5_1.toNat * 5 + 2); have hf_3 := hf_ (x5_1.toNat * 5 + 3); have hf_4 := hf_ (x5_1.toNat * 5 + 4); clear hv1_ hv2_ hf_) | ((with_reducible refine gate_store (t := 4) (p := 48) rfl ?_); refine store_event (t := 4) (p := 48) (v := ?vo_wa7) (w1 := (wa6.setCell ⟨go5, x5_1.toNat * 5 + 4, none⟩ (.bool ((wrap64 (b2 + 1)).tmod 3 == 0)))) ?hg ?ho ?hn ?hr ?_; (case ho => rfl); (case hg => rfl); (case hn => rfl); (case hr => first | (go_simp; done) | (go_simp; rfl)); intro wa7 hw; have n1_ := Aside0.mk (show UnB wa7 w0.heap.size P0_ 55 go5 l0.length (lensU l0) by rw [hw]; exact HU.out.put (by decide) x5_1.toNat 4 (by decide) (.bool ((wrap64 (b2 + 1)).tmod 3 == 0))); have n2_ := Aside0.mk (show Kept w wa7 P0_ by rw [hw]; exact HK.out.setCell (.inl GP5.out) _); have n3_ := Aside0.mk (show Below w0.heap.size w0 wa7 by rw [hw]; exact below_set HB.out GB5.out); clear HU HK HB hw; have HU := n1_; have HK := n2_; have HB := n3_; clear n1_ n2_ n3_; (try clear hx_0 hx_1 hx_2 hx_3 hx_4 hf_0 hf_1 hf_2 hf_3 hf_4 HV1 HV2); obtain ⟨u0_7, A1_7, c1_7, A2_7, c2_7, u3_7, u4_7, hx_0, hx_1, hx_2, hx_3, hx_4, hf_, hv1_, hv2_⟩ := HU.out.at_ x5_1.toNat q5.out; rw [HN.out] at hx_1 hx_2 hv1_ hv2_; dsimp only at hx_1 hx_2 hv1_ hv2_; have HV1 := Aside0.mk hv1_; have HV2 := Aside0.mk hv2_; have hf_0 := hf_ (x5_1.toNat * 5); have hf_1 := hf_ (x5_1.toNat * 5 + 1); have hf_2 := hf_ (x5_1.toNat * 5 + 2); have hf_3 := hf_ (x5_1.toNat * 5 + 3); have hf_4 := hf_ (x5_1.toNat * 5 + 4); clear hv1_ hv2_ hf_)); go_roundg k1; (case measure => have := HK1.out; omega); case rel => exact ⟨_, _, rfl, rfl, H', ⟨by have := HK1.out; omega⟩, ⟨.inr ⟨go5, rfl, HU.out⟩⟩, HK, HB⟩
        · rw [if_neg c4] at H; exact absurd H (by simp)
      · rw [if_neg c3] at H; have c3b0 : decide (x5_1 < (l0.length : Int)) = false := decide_eq_false c3; clear c3; obtain rfl := Option.some.inj H; go_wp2; go_ret; exact ⟨rfl, HB.out, HK.out⟩

/-! ### spec_l1Letter: function 75 -/
def spec_l1Letter.f (a0 : Int) : Option (Bool) := if a0 ≥ 97 then (if a0 ≤ 122 then (some true) else (if a0 ≥ 65 then (some (decide (a0 ≤ 90))) else (some false))) else (if a0 ≥ 65 then (some (decide (a0 ≤ 90))) else (some false))
set_option maxHeartbeats 8000000 in
set_option maxRecDepth 100000 in
theorem spec_l1Letter.calls (a0 : Int) (r : Bool) (w : World) (h : spec_l1Letter.f a0 = some r) :
  Calls Try.prog 75 #[.int .u8 a0] w fun e w' => e = .returned (.bool r) ∧ Drawn0 w w' := by
 have H : (if a0 ≥ 97 then (if a0 ≤ 122 then (some true) else (if a0 ≥ 65 then (some (decide (a0 ≤ 90))) else (some false))) else (if a0 ≥ 65 then (some (decide (a0 ≤ 90))) else (some false))) = some r := h; clear h; by_cases c2 : a0 ≥ 97
 ·rw [if_pos c2] at H; have c2b0 : decide (97 ≤ a0) = true := decide_eq_true c2; clear c2; by_cases c3 : a0 ≤ 122
  ·rw [if_pos c3] at H; have c3b0 : decide (a0 ≤ 122) = true := decide_eq_true c3; clear c3; obtain rfl := Option.some.inj H; go_enter Try.func75, Try.ntmps75; go_wp2; go_ret; exact ⟨zd0, zd8⟩
  ·rw [if_neg c3] at H; have c3b0 : decide (a0 ≤ 122) = false := decide_eq_false c3; clear c3; by_cases c4 : a0 ≥ 65
   ·rw [if_pos c4] at H; have c4b0 : decide (65 ≤ a0) = true := decide_eq_true c4; clear c4; obtain rfl := Option.some.inj H; go_enter Try.func75, Try.ntmps75; go_wp2; go_ret; exact ⟨zd0, zd8⟩
   ·rw [if_neg c4] at H; have c4b0 : decide (65 ≤ a0) = false := decide_eq_false c4; clear c4; obtain rfl := Option.some.inj H; go_enter Try.func75, Try.ntmps75; go_wp2; go_ret; exact ⟨zd0, zd8⟩
 ·rw [if_neg c2] at H; have c2b0 : decide (97 ≤ a0) = false := decide_eq_false c2; clear c2; by_cases c5 : a0 ≥ 65
  ·rw [if_pos c5] at H; have c5b0 : decide (65 ≤ a0) = true := decide_eq_true c5; clear c5; obtain rfl := Option.some.inj H; go_enter Try.func75, Try.ntmps75; go_wp2; go_ret; exact ⟨zd0, zd8⟩
  ·rw [if_neg c5] at H; have c5b0 : decide (65 ≤ a0) = false := decide_eq_false c5; clear c5; obtain rfl := Option.some.inj H; go_enter Try.func75, Try.ntmps75; go_wp2; go_ret; exact ⟨zd0, zd8⟩

/-! ### spec_l1Digit: function 76 -/
def spec_l1Digit.f (a0 : Int) : Option (Bool) := if a0 ≥ 48 then (some (decide (a0 ≤ 57))) else (some false)
set_option maxHeartbeats 8000000 in
set_option maxRecDepth 100000 in
theorem spec_l1Digit.calls (a0 : Int) (r : Bool) (w : World) (h : spec_l1Digit.f a0 = some r) :
  Calls Try.prog 76 #[.int .u8 a0] w fun e w' => e = .returned (.bool r) ∧ Drawn0 w w' := by
 have H : (if a0 ≥ 48 then (some (decide (a0 ≤ 57))) else (some false)) = some r := h; clear h; by_cases c2 : a0 ≥ 48
 ·rw [if_pos c2] at H; have c2b0 : decide (48 ≤ a0) = true := decide_eq_true c2; clear c2; obtain rfl := Option.some.inj H; go_enter Try.func76, Try.ntmps76; go_wp2; go_ret; exact ⟨zd0, zd8⟩
 ·rw [if_neg c2] at H; have c2b0 : decide (48 ≤ a0) = false := decide_eq_false c2; clear c2; obtain rfl := Option.some.inj H; go_enter Try.func76, Try.ntmps76; go_wp2; go_ret; exact ⟨zd0, zd8⟩

/-! ### spec_NameOk: function 47 -/
mutual
def spec_NameOk.j0 : Nat → ByteArray → Bool → Option (Bool)
 | 0, _, _ => none
 | k + 1, x0, x17 => if x17 = true then (some false) else (spec_NameOk.l0 k x0 0)
def spec_NameOk.l0 : Nat → ByteArray → Int → Option (Bool)
 | 0, _, _ => none
 | k + 1, x0, x3 => if x3 < (x0.size : Int) then (if 0 ≤ x3 then ((spec_l1Letter.f (bt x0 x3)).bind fun t157 => (if t157 = true then (spec_NameOk.l0 k x0 (wrap64 (x3 + 1))) else ((spec_l1Digit.f (bt x0 x3)).bind fun t158 => (if t158 = true then (spec_NameOk.l0 k x0 (wrap64 (x3 + 1))) else (if (bt x0 x3) = 45 then (spec_NameOk.l0 k x0 (wrap64 (x3 + 1))) else (if (bt x0 x3) = 95 then (spec_NameOk.l0 k x0 (wrap64 (x3 + 1))) else (if (bt x0 x3) = 46 then (spec_NameOk.l0 k x0 (wrap64 (x3 + 1))) else (if (bt x0 x3) = 43 then (spec_NameOk.l0 k x0 (wrap64 (x3 + 1))) else (some false))))))))) else (none)) else (some true)
end
def spec_NameOk.f (k : Nat) (a0 : ByteArray) : Option (Bool) := if (a0.size : Int) < 1 then (spec_NameOk.j0 k a0 true) else (if (a0.size : Int) > 60 then (spec_NameOk.j0 k a0 true) else (if 0 < (a0.size : Int) then (spec_NameOk.j0 k a0 ((bt a0 0) == 46)) else (none)))
theorem spec_NameOk.mono_l : ∀ k, (∀ y0 y1, LeO (spec_NameOk.j0 k y0 y1) (spec_NameOk.j0 (k + 1) y0 y1)) ∧ (∀ y0 y1, LeO (spec_NameOk.l0 k y0 y1) (spec_NameOk.l0 (k + 1) y0 y1))
 | 0 => ⟨fun _ _ r h => by simp [spec_NameOk.j0] at h, fun _ _ r h => by simp [spec_NameOk.l0] at h⟩
 | k + 1 => by
  obtain ⟨ih0, ih1⟩ := spec_NameOk.mono_l k; refine ⟨?_, ?_⟩ <;> intros <;> (first | unfold spec_NameOk.j0 | unfold spec_NameOk.l0) <;>
   repeat' first
   | (with_reducible exact ih0 _ _)
   | (with_reducible exact ih1 _ _)
   | (with_reducible exact LeO.refl _)
   | (with_reducible exact LeO.none _)
   | (with_reducible refine LeO.ite ?_ ?_)
   | (with_reducible refine LeO.bind ?_ (fun _ => ?_))
   | exact ih0 _ _
   | exact ih1 _ _
   | exact LeO.none _
   | refine LeO.ite ?_ ?_
   | refine LeO.bind ?_ (fun _ => ?_)
theorem spec_NameOk.mono : ∀ a0 k, LeO (spec_NameOk.f k a0) (spec_NameOk.f (k + 1) a0) := by
 intro a0 k; obtain ⟨ih0, ih1⟩ := spec_NameOk.mono_l k; unfold spec_NameOk.f
 repeat' first
   | (with_reducible exact ih0 _ _)
   | (with_reducible exact ih1 _ _)
   | (with_reducible exact LeO.refl _)
   | (with_reducible exact LeO.none _)
   | (with_reducible refine LeO.ite ?_ ?_)
   | (with_reducible refine LeO.bind ?_ (fun _ => ?_))
   | exact ih0 _ _
   | exact ih1 _ _
   | exact LeO.none _
   | refine LeO.ite ?_ ?_
   | refine LeO.bind ?_ (fun _ => ?_)
set_option maxHeartbeats 8000000 in
set_option maxRecDepth 100000 in
theorem spec_NameOk.calls (k : Nat) (a0 : ByteArray) (r : Bool) (w : World) (h : spec_NameOk.f k a0 = some r) :
  Calls Try.prog 47 #[.string a0] w fun e w' => e = .returned (.bool r) ∧ Drawn0 w w' := by
 have H : (if (a0.size : Int) < 1 then (spec_NameOk.j0 k a0 true) else (if (a0.size : Int) > 60 then (spec_NameOk.j0 k a0 true) else (if 0 < (a0.size : Int) then (spec_NameOk.j0 k a0 ((bt a0 0) == 46)) else (none)))) = some r := h; clear h; have HC2 := Aside0.mk H; clear H; go_enter Try.func47, Try.ntmps47; go_upto_region 1 with (fail); go_cut [17] (fun v17 wc => ∃ (kq : Nat) (x17_1 : Bool), v17 = .bool x17_1 ∧ Aside0 (spec_NameOk.j0 kq a0 x17_1 = some r) ∧ Aside0 (kq ≤ k) ∧ Drawn0 w wc); case first =>
  have H := HC2.out; clear HC2; by_cases c3 : (a0.size : Int) < 1
  ·rw [if_pos c3] at H; have c3b0 : decide ((a0.size : Int) < 1) = true := decide_eq_true c3; have c3b1 : decide (a0.size < 1) = true := decide_eq_true (by omega); clear c3; (first | rw [c3b0] | (simp only [i64_w, i32_w]; rw [c3b0]) | skip); have H' := Aside0.mk H; clear H; go_wp2; go_meet; case rel => exact ⟨_, (true), zd0, H', ⟨by first | omega | exact Nat.le_refl _⟩, zd8⟩
  ·rw [if_neg c3] at H; have c3b0 : decide ((a0.size : Int) < 1) = false := decide_eq_false c3; have c3b1 : decide (a0.size < 1) = false := decide_eq_false (by omega); clear c3; (first | rw [c3b0] | (simp only [i64_w, i32_w]; rw [c3b0]) | skip); by_cases c4 : (a0.size : Int) > 60
   ·rw [if_pos c4] at H; have c4b0 : decide (60 < (a0.size : Int)) = true := decide_eq_true c4; have c4b1 : decide (60 < a0.size) = true := decide_eq_true (by omega); clear c4; have H' := Aside0.mk H; clear H; go_wp2; go_meet; case rel => exact ⟨_, (true), zd0, H', ⟨by first | omega | exact Nat.le_refl _⟩, zd8⟩
   ·rw [if_neg c4] at H; have c4b0 : decide (60 < (a0.size : Int)) = false := decide_eq_false c4; have c4b1 : decide (60 < a0.size) = false := decide_eq_false (by omega); clear c4; by_cases c5 : 0 < (a0.size : Int)
    ·rw [if_pos c5] at H; have c5b0 : decide (0 < (a0.size : Int)) = true := decide_eq_true c5; have c5b1 : decide (0 < a0.size) = true := decide_eq_true (by omega); clear c5; have H' := Aside0.mk H; clear H; have p6 : 0 ≤ (0 : Int) := (by omega); have q6 : 0 < a0.size := (by have : (0 : Int) < (a0.size : Int) := of_decide_eq_true (by first | (with_reducible assumption) | assumption); omega); have hx6 : ∀ h : 0 < a0.size, ((a0[0]'h).toNat : Int) = bt a0 0 := bt_at a0 0; clear p6; have qi6 : (0 < (a0.size : Int)) = True := eq_true (of_decide_eq_true zd5); replace q6 := eq_true q6; go_wp2; go_meet; case rel => exact ⟨_, (((bt a0 0) == 46)), zd0, H', ⟨by first | omega | exact Nat.le_refl _⟩, zd8⟩
    ·rw [if_neg c5] at H; exact absurd H (by simp)
 case rest =>
  clear HC2; (try clear p2); (try clear c3); (try clear c3b0); (try clear c3b1); (try clear c4); (try clear c4b0); (try clear c4b1); (try clear c5); (try clear c5b0); (try clear c5b1); (try clear p6); (try clear q6); (try clear hx6); (try clear qi6); (try clear p6); (try clear q6); obtain ⟨kq, x17_1, rfl, HA, HJ1, ⟨mc1, rfl⟩⟩ := hcut
  cases kq with
  | zero => exact absurd HA.out (by simp [spec_NameOk.j0])
  | succ kj1 =>
   have H := HA.out; clear HA; simp only [spec_NameOk.j0] at H; by_cases c7 : x17_1 = true
   ·subst c7; rw [if_pos rfl] at H; obtain rfl := Option.some.inj H; go_wp2; go_ret; exact ⟨zd0, zd8⟩
   ·replace c7 := Bool.eq_false_iff.mpr c7; subst c7; rw [if_neg (show ¬ (false = true) by decide)] at H; have H' := Aside0.mk H; clear H; go_wp2; go_loopg [3] kj1 (fun kq v3 w' => ∃ (x3_2 : Int), v3 = .int .i64 x3_2 ∧ Aside0 (spec_NameOk.l0 kq a0 x3_2 = some r) ∧ Aside0 (kq ≤ kj1) ∧ Drawn0 w w'); (case atStart => exact ⟨(0), zd0, H', ⟨Nat.le_refl _⟩, zd8⟩); case round =>
     clear H'; (try clear c1); (try clear p2); (try clear c3); (try clear c3b0); (try clear c3b1); (try clear c4); (try clear c4b0); (try clear c4b1); (try clear c5); (try clear c5b0); (try clear c5b1); (try clear p6); (try clear q6); (try clear hx6); (try clear qi6); (try clear c7); (try clear p2); (try clear p6); (try clear q6); obtain ⟨x3_2, rfl, HA, HK2, ⟨m2, rfl⟩⟩ := hrel
     cases gk with
     | zero => exact absurd HA.out (by simp [spec_NameOk.l0])
     | succ k2 =>
      have H := HA.out; clear HA; simp only [spec_NameOk.l0] at H; by_cases c8 : x3_2 < (a0.size : Int)
      ·rw [if_pos c8] at H; have c8b0 : decide (x3_2 < (a0.size : Int)) = true := decide_eq_true c8; clear c8; by_cases c9 : 0 ≤ x3_2
       ·rw [if_pos c9] at H; have c9b0 : decide (0 ≤ x3_2) = true := decide_eq_true c9; clear c9; replace H := Option.bind_eq_some_iff.mp H; obtain ⟨t157, A110, H⟩ := H; have A11 := Aside0.mk A110; clear A110; by_cases c12 : t157 = true
        ·subst c12; rw [if_pos rfl] at H; have H' := Aside0.mk H; clear H; have p10 : 0 ≤ (x3_2 : Int) := of_decide_eq_true zd5; have q10 : x3_2 < (a0.size : Int) := of_decide_eq_true zd5; have hx10 := bt_at a0 x3_2; replace p10 := eq_true p10; replace q10 := eq_true q10; go_wp2_with (first | ((with_reducible refine gate_callee (f := 75) rfl ?_); refine goesL_ (some 28) rfl rfl Try.func75 (by kernel_rfl) rfl #[.int .u8 (bt a0 x3_2)] rfl zd4 ?_; (with_reducible refine (spec_l1Letter.calls (bt a0 x3_2) true _ A11.out).mono ?_); rintro e w' ⟨rfl, ⟨nd, rfl⟩⟩; refine ⟨_, rfl, ?_⟩)); go_roundg k2; (case measure => have := HJ1.out; have := HK2.out; omega); case rel => exact ⟨(wrap64 (x3_2 + 1)), zd0, H', ⟨by have := HJ1.out; have := HK2.out; omega⟩, zd8⟩
        ·replace c12 := Bool.eq_false_iff.mpr c12; subst c12; rw [if_neg (show ¬ (false = true) by decide)] at H; replace H := Option.bind_eq_some_iff.mp H; obtain ⟨t158, A130, H⟩ := H; have A13 := Aside0.mk A130; clear A130; by_cases c14 : t158 = true
         ·subst c14; rw [if_pos rfl] at H; have H' := Aside0.mk H; clear H; have p10 : 0 ≤ (x3_2 : Int) := of_decide_eq_true zd5; have q10 : x3_2 < (a0.size : Int) := of_decide_eq_true zd5; have hx10 := bt_at a0 x3_2; replace p10 := eq_true p10; replace q10 := eq_true q10; go_wp2_with (first | ((with_reducible refine gate_callee (f := 75) rfl ?_); refine goesL_ (some 28) rfl rfl Try.func75 (by kernel_rfl) rfl #[.int .u8 (bt a0 x3_2)] rfl zd4 ?_; (with_reducible refine (spec_l1Letter.calls (bt a0 x3_2) false _ A11.out).mono ?_); rintro e w' ⟨rfl, ⟨nd, rfl⟩⟩; refine ⟨_, rfl, ?_⟩) | (go_at_call 76; (with_reducible refine (spec_l1Digit.calls (bt a0 x3_2) true _ A13.out).mono ?_); rintro e w' ⟨rfl, ⟨nd, rfl⟩⟩)); go_roundg k2; (case measure => have := HJ1.out; have := HK2.out; omega); case rel => exact ⟨(wrap64 (x3_2 + 1)), zd0, H', ⟨by have := HJ1.out; have := HK2.out; omega⟩, zd8⟩
         ·replace c14 := Bool.eq_false_iff.mpr c14; subst c14; rw [if_neg (show ¬ (false = true) by decide)] at H; by_cases c15 : (bt a0 x3_2) = 45
          ·rw [if_pos c15] at H; have c15b0 : ((bt a0 x3_2) == 45) = true := beq_iff_eq.mpr c15; have c15b1 : ((bt a0 x3_2) != 45) = false := bne_eq_false_iff_eq.mpr c15; clear c15; have H' := Aside0.mk H; clear H; have p10 : 0 ≤ (x3_2 : Int) := of_decide_eq_true zd5; have q10 : x3_2 < (a0.size : Int) := of_decide_eq_true zd5; have hx10 := bt_at a0 x3_2; replace p10 := eq_true p10; replace q10 := eq_true q10; go_wp2_with (first | ((with_reducible refine gate_callee (f := 75) rfl ?_); refine goesL_ (some 28) rfl rfl Try.func75 (by kernel_rfl) rfl #[.int .u8 (bt a0 x3_2)] rfl zd4 ?_; (with_reducible refine (spec_l1Letter.calls (bt a0 x3_2) false _ A11.out).mono ?_); rintro e w' ⟨rfl, ⟨nd, rfl⟩⟩; refine ⟨_, rfl, ?_⟩) | (go_at_call 76; (with_reducible refine (spec_l1Digit.calls (bt a0 x3_2) false _ A13.out).mono ?_); rintro e w' ⟨rfl, ⟨nd, rfl⟩⟩)); go_roundg k2; (case measure => have := HJ1.out; have := HK2.out; omega); case rel => exact ⟨(wrap64 (x3_2 + 1)), zd0, H', ⟨by have := HJ1.out; have := HK2.out; omega⟩, zd8⟩
          ·rw [if_neg c15] at H; have c15b0 : ((bt a0 x3_2) == 45) = false := beq_eq_false_iff_ne.mpr c15; have c15b1 : ((bt a0 x3_2) != 45) = true := bne_iff_ne.mpr c15; by_cases c16 : (bt a0 x3_2) = 95
           ·rw [if_pos c16] at H; have c16b0 : ((bt a0 x3_2) == 95) = true := beq_iff_eq.mpr c16; have c16b1 : ((bt a0 x3_2) != 95) = false := bne_eq_false_iff_eq.mpr c16; clear c16; have H' := Aside0.mk H; clear H; have p10 : 0 ≤ (x3_2 : Int) := of_decide_eq_true zd5; have q10 : x3_2 < (a0.size : Int) := of_decide_eq_true zd5; have hx10 := bt_at a0 x3_2; replace p10 := eq_true p10; replace q10 := eq_true q10; go_wp2_with (first | ((with_reducible refine gate_callee (f := 75) rfl ?_); refine goesL_ (some 28) rfl rfl Try.func75 (by kernel_rfl) rfl #[.int .u8 (bt a0 x3_2)] rfl zd4 ?_; (with_reducible refine (spec_l1Letter.calls (bt a0 x3_2) false _ A11.out).mono ?_); rintro e w' ⟨rfl, ⟨nd, rfl⟩⟩; refine ⟨_, rfl, ?_⟩) | (go_at_call 76; (with_reducible refine (spec_l1Digit.calls (bt a0 x3_2) false _ A13.out).mono ?_); rintro e w' ⟨rfl, ⟨nd, rfl⟩⟩)); go_roundg k2; (case measure => have := HJ1.out; have := HK2.out; omega); case rel => exact ⟨(wrap64 (x3_2 + 1)), zd0, H', ⟨by have := HJ1.out; have := HK2.out; omega⟩, zd8⟩
           ·rw [if_neg c16] at H; have c16b0 : ((bt a0 x3_2) == 95) = false := beq_eq_false_iff_ne.mpr c16; have c16b1 : ((bt a0 x3_2) != 95) = true := bne_iff_ne.mpr c16; by_cases c17 : (bt a0 x3_2) = 46
            ·rw [if_pos c17] at H; have c17b0 : ((bt a0 x3_2) == 46) = true := beq_iff_eq.mpr c17; have c17b1 : ((bt a0 x3_2) != 46) = false := bne_eq_false_iff_eq.mpr c17; clear c17; have H' := Aside0.mk H; clear H; have p10 : 0 ≤ (x3_2 : Int) := of_decide_eq_true zd5; have q10 : x3_2 < (a0.size : Int) := of_decide_eq_true zd5; have hx10 := bt_at a0 x3_2; replace p10 := eq_true p10; replace q10 := eq_true q10; go_wp2_with (first | ((with_reducible refine gate_callee (f := 75) rfl ?_); refine goesL_ (some 28) rfl rfl Try.func75 (by kernel_rfl) rfl #[.int .u8 (bt a0 x3_2)] rfl zd4 ?_; (with_reducible refine (spec_l1Letter.calls (bt a0 x3_2) false _ A11.out).mono ?_); rintro e w' ⟨rfl, ⟨nd, rfl⟩⟩; refine ⟨_, rfl, ?_⟩) | (go_at_call 76; (with_reducible refine (spec_l1Digit.calls (bt a0 x3_2) false _ A13.out).mono ?_); rintro e w' ⟨rfl, ⟨nd, rfl⟩⟩)); go_roundg k2; (case measure => have := HJ1.out; have := HK2.out; omega); case rel => exact ⟨(wrap64 (x3_2 + 1)), zd0, H', ⟨by have := HJ1.out; have := HK2.out; omega⟩, zd8⟩
            ·rw [if_neg c17] at H; have c17b0 : ((bt a0 x3_2) == 46) = false := beq_eq_false_iff_ne.mpr c17; have c17b1 : ((bt a0 x3_2) != 46) = true := bne_iff_ne.mpr c17; by_cases c18 : (bt a0 x3_2) = 43
             ·rw [if_pos c18] at H; have c18b0 : ((bt a0 x3_2) == 43) = true := beq_iff_eq.mpr c18; have c18b1 : ((bt a0 x3_2) != 43) = false := bne_eq_false_iff_eq.mpr c18; clear c18; have H' := Aside0.mk H; clear H; have p10 : 0 ≤ (x3_2 : Int) := of_decide_eq_true zd5; have q10 : x3_2 < (a0.size : Int) := of_decide_eq_true zd5; have hx10 := bt_at a0 x3_2; replace p10 := eq_true p10; replace q10 := eq_true q10; go_wp2_with (first | ((with_reducible refine gate_callee (f := 75) rfl ?_); refine goesL_ (some 28) rfl rfl Try.func75 (by kernel_rfl) rfl #[.int .u8 (bt a0 x3_2)] rfl zd4 ?_; (with_reducible refine (spec_l1Letter.calls (bt a0 x3_2) false _ A11.out).mono ?_); rintro e w' ⟨rfl, ⟨nd, rfl⟩⟩; refine ⟨_, rfl, ?_⟩) | (go_at_call 76; (with_reducible refine (spec_l1Digit.calls (bt a0 x3_2) false _ A13.out).mono ?_); rintro e w' ⟨rfl, ⟨nd, rfl⟩⟩)); go_roundg k2; (case measure => have := HJ1.out; have := HK2.out; omega); case rel => exact ⟨(wrap64 (x3_2 + 1)), zd0, H', ⟨by have := HJ1.out; have := HK2.out; omega⟩, zd8⟩
             ·rw [if_neg c18] at H; have c18b0 : ((bt a0 x3_2) == 43) = false := beq_eq_false_iff_ne.mpr c18; have c18b1 : ((bt a0 x3_2) != 43) = true := bne_iff_ne.mpr c18; obtain rfl := Option.some.inj H; have p10 : 0 ≤ (x3_2 : Int) := of_decide_eq_true zd5; have q10 : x3_2 < (a0.size : Int) := of_decide_eq_true zd5; have hx10 := bt_at a0 x3_2; replace p10 := eq_true p10; replace q10 := eq_true q10; go_wp2_with (first | ((with_reducible refine gate_callee (f := 75) rfl ?_); refine goesL_ (some 28) rfl rfl Try.func75 (by kernel_rfl) rfl #[.int .u8 (bt a0 x3_2)] rfl zd4 ?_; (with_reducible refine (spec_l1Letter.calls (bt a0 x3_2) false _ A11.out).mono ?_); rintro e w' ⟨rfl, ⟨nd, rfl⟩⟩; refine ⟨_, rfl, ?_⟩) | (go_at_call 76; (with_reducible refine (spec_l1Digit.calls (bt a0 x3_2) false _ A13.out).mono ?_); rintro e w' ⟨rfl, ⟨nd, rfl⟩⟩)); go_ret; exact ⟨zd0, zd8⟩
       ·rw [if_neg c9] at H; exact absurd H (by simp)
      ·rw [if_neg c8] at H; have c8b0 : decide (x3_2 < (a0.size : Int)) = false := decide_eq_false c8; clear c8; obtain rfl := Option.some.inj H; go_wp2; go_ret; exact ⟨zd0, zd8⟩

end Go.Proofs.Ytnahkojlamficaa.PFnExactPlanUnits
