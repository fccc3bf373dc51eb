-- Laid by a program of this session: a turned copy of the kit's print, with contracts by hand beside.
import Derived.Test.YtnahkojlamficaaPFnPlanReachesx0
import Derived.Test.YtnahkojlamficaaPFnPlanReachesx11
import Derived.Test.YtnahkojlamficaaPFnPlanReachesx12
namespace Go.Proofs.Ytnahkojlamficaa.PFnPlanReaches
open Go.RowKit Go.Proofs.YtnahkojlamficaaW.PrintWords Go.Proofs.YtnahkojlamficaaW.PrintLast Go.Proofs.YtnahkojlamficaaW.PrintMore
theorem zbd0 {X : Prop} (h : X := by repeat (first | (with_reducible first | exact HK.out | apply KeepBut.set_ | apply keep_drewN | apply keep_drew | apply keep_alloc) | exact HK.out)) : X := h
theorem zbd1 {A0 X : Prop} (a0 : A0) (h : A0 → X := by intro a0_; repeat (first | (with_reducible first | exact HB.out | apply below_alloc | apply pw_below_drewN | apply below_drew1 | refine below_set ?_ (IsS94.ge a0_)) | exact HB.out)) : X := h a0
theorem zbd2 {A0 X : Prop} (a0 : A0) (h : A0 → X := by intro a0_; repeat (first | (with_reducible first | exact a0_ | apply IsS94.alloc | apply IsS94.drewN | apply IsS94.drew | apply IsS94.set_1 | apply IsS94.set_2) | exact a0_)) : X := h a0
theorem zbd3 {A0 X : Prop} (a0 : A0) (h : A0 → X := by intro a0_; (with_reducible repeat (first | apply Kd.R_alloc | apply Kd.R_drewN | apply Kd.R_drew)); exact a0_) : X := h a0
theorem zbd4 {X : Prop} (h : X := by first | rfl | (simp; done) | (simp [*]; done)) : X := h
theorem zbd5 {A0 X : Prop} (a0 : A0) (h : A0 → X := by intro a0_; (with_reducible repeat (first | apply Kd.R_alloc | apply Kd.R_drewN | apply Kd.R_drew)); exact Kd.R_mono a0_ (fun _ hk => hk.2)) : X := h a0
theorem zbd6 {X : Prop} (h : X := by (try simp only [List.map_toArray, List.map_cons, List.map_nil]); first | done | rfl | (simp only [List.length_drop, List.length_take]; rfl)) : X := h
theorem zbd7 {X : Prop} (h : X := by first | (with_reducible assumption) | assumption) : X := h
theorem zbd8 {X : Prop} (h : X := by first | rfl | (simp [errW_none, errW_some] <;> rfl) | (simp [*, errW_none, errW_some] <;> rfl)) : X := h
theorem zbd9 {A0 X : Prop} (a0 : A0) (h : A0 → X := by intro a0_; (with_reducible repeat (first | apply Kd.S_alloc | apply Kd.S_drewN | apply Kd.S_drew)); exact a0_) : X := h a0
theorem zbd10 {A0 X : Prop} (a0 : A0) (h : A0 → X := by intro a0_; (with_reducible repeat (first | apply Kd.S_alloc | apply Kd.S_drewN | apply Kd.S_drew)); exact Kd.S_mono a0_ (fun _ hk => ⟨hk.1.2, hk.2⟩)) : X := h a0
theorem zbd11 {X : Prop} (h : X := by repeat (first | exact Drawn0.refl _ | apply Drawn0.step)) : X := h
attribute [local go_sem] max2_int min2_int max_two min_two max_three min_three max_four min_four   -- for this text's walks alone
set_option linter.unusedVariables false
set_option linter.unusedSimpArgs false

/-! ### spec_l18DrawNames: function 72 -/
def spec_l18DrawNames.l0 : Nat → List ByteArray → List ByteArray → Int → List Int → Int → Int → Option (List ByteArray × Int × Int)
 | 0, _, _, _, _, _, _ => none
 | k + 1, x3, x4, x5, x1000, x1001, x1002 => if x5 < (x4.length : Int) then ((spec_l1Once.f x1000 x1001 x1002 3).bind fun bt303 => (if bt303.1 = true then (if 0 ≤ x5 then (if x3.length < 8796093022208 then (spec_l18DrawNames.l0 k (x3 ++ [rdOf ByteArray.empty x4 x5]) x4 (wrap64 (x5 + 1)) x1000 bt303.2.1 bt303.2.2) else (none)) else (none)) else (spec_l18DrawNames.l0 k x3 x4 (wrap64 (x5 + 1)) x1000 bt303.2.1 bt303.2.2))) else (some (x3, x1001, x1002))
def spec_l18DrawNames.f (k : Nat) (s0_0 : List Int) (s0_1 : Int) (s0_2 : Int) : Option (List ByteArray × Int × Int) := spec_l18DrawNames.l0 k (([] : List ByteArray)) (([(⟨#[97]⟩ : ByteArray), (⟨#[98]⟩ : ByteArray), (⟨#[99]⟩ : ByteArray), (⟨#[100]⟩ : ByteArray), (⟨#[101]⟩ : ByteArray), (⟨#[102]⟩ : ByteArray), (⟨#[122, 122]⟩ : ByteArray)] : List ByteArray)) 0 s0_0 s0_1 s0_2
theorem spec_l18DrawNames.mono_l : ∀ k, (∀ y0 y1 y2 y3 y4 y5, LeO (spec_l18DrawNames.l0 k y0 y1 y2 y3 y4 y5) (spec_l18DrawNames.l0 (k + 1) y0 y1 y2 y3 y4 y5))
 | 0 => fun _ _ _ _ _ _ r h => by simp [spec_l18DrawNames.l0] at h
 | k + 1 => by
  have ih0 := spec_l18DrawNames.mono_l k
  ·intro y0 y1 y2 y3 y4 y5; unfold spec_l18DrawNames.l0
   repeat' first
   | (with_reducible exact ih0 _ _ _ _ _ _)
   | (with_reducible exact LeO.refl _)
   | (with_reducible exact LeO.none _)
   | (with_reducible refine LeO.ite ?_ ?_)
   | (with_reducible refine LeO.bind ?_ (fun _ => ?_))
   | exact ih0 _ _ _ _ _ _
   | exact LeO.none _
   | refine LeO.ite ?_ ?_
   | refine LeO.bind ?_ (fun _ => ?_)
theorem spec_l18DrawNames.mono : ∀ a0 a1 a2 k, LeO (spec_l18DrawNames.f k a0 a1 a2) (spec_l18DrawNames.f (k + 1) a0 a1 a2) := by
 intro a0 a1 a2 k; have ih0 := spec_l18DrawNames.mono_l k; unfold spec_l18DrawNames.f
 repeat' first
   | (with_reducible exact ih0 _ _ _ _ _ _)
   | (with_reducible exact LeO.refl _)
   | (with_reducible exact LeO.none _)
   | (with_reducible refine LeO.ite ?_ ?_)
   | (with_reducible refine LeO.bind ?_ (fun _ => ?_))
   | exact ih0 _ _ _ _ _ _
   | exact LeO.none _
   | refine LeO.ite ?_ ?_
   | refine LeO.bind ?_ (fun _ => ?_)
set_option maxHeartbeats 8000000 in
set_option maxRecDepth 100000 in
theorem spec_l18DrawNames.calls (k : Nat) (g : Nat) (s0_0 : List Int) (s0_1 : Int) (s0_2 : Int) (r1 : List ByteArray) (r2 : Int) (r3 : Int) (w0 w : World) (hI : IsS94 w0 w g s0_0 s0_1 s0_2) (hB : Below w0.heap.size w0 w) (h : spec_l18DrawNames.f k s0_0 s0_1 s0_2 = some (r1, r2, r3)) :
  Calls Try.prog 72 #[.pointer (some ⟨g, 0, none⟩)] w fun e w' => ∃ v0_ : Value, e = .returned (v0_) ∧ Kd.R Kd.string 9 w' w.heap.size (fun _ => True) v0_ r1 ∧ IsS94 w0 w' g s0_0 r2 r3 ∧ Below w0.heap.size w0 w' ∧ KeepBut w w' g none := by
 have HI0 := Aside0.mk hI; have HK := Aside0.mk (KeepBut.refl w g none); have HL := Aside0.mk hB.size; clear hI; have HW0 := Aside0.mk hB.size; have HB := Aside0.mk hB; clear hB; have H : (spec_l18DrawNames.l0 k (([] : List ByteArray)) (([(⟨#[97]⟩ : ByteArray), (⟨#[98]⟩ : ByteArray), (⟨#[99]⟩ : ByteArray), (⟨#[100]⟩ : ByteArray), (⟨#[101]⟩ : ByteArray), (⟨#[102]⟩ : ByteArray), (⟨#[122, 122]⟩ : ByteArray)] : List ByteArray)) 0 s0_0 s0_1 s0_2) = some (r1, r2, r3) := h; clear h; obtain ⟨y297, hy297⟩ : ∃ y_ : List ByteArray, y_ = (([] : List ByteArray)) := ⟨_, rfl⟩; replace H : (spec_l18DrawNames.l0 k y297 (([(⟨#[97]⟩ : ByteArray), (⟨#[98]⟩ : ByteArray), (⟨#[99]⟩ : ByteArray), (⟨#[100]⟩ : ByteArray), (⟨#[101]⟩ : ByteArray), (⟨#[102]⟩ : ByteArray), (⟨#[122, 122]⟩ : ByteArray)] : List ByteArray)) 0 s0_0 s0_1 s0_2) = some (r1, r2, r3) := by first | (rw [hy297]; with_reducible exact H) | (have H2_ := (Option.bind_some _ _).symm.trans H; rw [hy297]; with_reducible exact H2_) | (have H2_ := (Option.bind_some _ _).symm.trans H; with_reducible exact H2_) | with_reducible exact H | (rw [hy297]; exact H) | exact H
 have Ny297 := Aside0.mk hy297; clear hy297; obtain ⟨y300, hy300⟩ : ∃ y_ : List ByteArray, y_ = (([(⟨#[97]⟩ : ByteArray), (⟨#[98]⟩ : ByteArray), (⟨#[99]⟩ : ByteArray), (⟨#[100]⟩ : ByteArray), (⟨#[101]⟩ : ByteArray), (⟨#[102]⟩ : ByteArray), (⟨#[122, 122]⟩ : ByteArray)] : List ByteArray)) := ⟨_, rfl⟩; replace H : (spec_l18DrawNames.l0 k y297 y300 0 s0_0 s0_1 s0_2) = some (r1, r2, r3) := by first | (rw [hy300]; with_reducible exact H) | (have H2_ := (Option.bind_some _ _).symm.trans H; rw [hy300]; with_reducible exact H2_) | (have H2_ := (Option.bind_some _ _).symm.trans H; with_reducible exact H2_) | with_reducible exact H | (rw [hy300]; exact H) | exact H
 have Ny300 := Aside0.mk hy300; clear hy300; have H' := Aside0.mk H; clear H; go_enter Try.func72, Try.ntmps72; go_wp2_with (first | ((with_reducible refine gate_dst (N := 6) rfl ?_); refine Kd.R_lit Kd.string _ 9 ?hg (N := 6) ?hd (xs := ([] : List ByteArray)) (inner := []) (ok := fun _ => True) (okp := fun _ => True) ?hr ?hp (fun _ hk => hk) trivial (Below.refl _ _) (Nat.le_refl _) (by simp) ?_; (case hd => rfl); (case hg => rfl); (case hr => first | (go_simp; done) | (go_simp; rfl)); (case hp => exact (Reps.none _ _)); intro v298 w2 ho3 hb hg_ hnew_; clear hg_ hnew_; (first | rw [← Ny297.out] at ho3 | (simp only [Int.reduceToNat] at ho3; rw [← Ny297.out] at ho3)); have HO299 := Aside0.mk (Kd.R_lower ho3 (keep_size (w := w) (g := g) (row := none) zbd0)); replace HK := Aside0.mk (KeepBut.trans zbd0 (KeepBut.of_below hb g none) (.inl rfl)); replace HB := Aside0.mk (below_step (zbd1 HI0.out) hb); replace HI0 := Aside0.mk (IsS94.below (zbd2 HI0.out) hb); clear hb ho3) | ((with_reducible refine gate_dst (N := 7) rfl ?_); refine Kd.R_lit Kd.string _ 9 ?hg (N := 7) ?hd (xs := ([(⟨#[97]⟩ : ByteArray), (⟨#[98]⟩ : ByteArray), (⟨#[99]⟩ : ByteArray), (⟨#[100]⟩ : ByteArray), (⟨#[101]⟩ : ByteArray), (⟨#[102]⟩ : ByteArray), (⟨#[122, 122]⟩ : ByteArray)] : List ByteArray)) (inner := [.string (⟨#[97]⟩ : ByteArray), .string (⟨#[98]⟩ : ByteArray), .string (⟨#[99]⟩ : ByteArray), .string (⟨#[100]⟩ : ByteArray), .string (⟨#[101]⟩ : ByteArray), .string (⟨#[102]⟩ : ByteArray), .string (⟨#[122, 122]⟩ : ByteArray)]) (ok := fun _ => True) (okp := fun _ => True) ?hr ?hp (fun _ hk => hk) trivial (Below.refl _ _) (Nat.le_refl _) (by simp) ?_; (case hd => rfl); (case hg => rfl); (case hr => first | (go_simp; done) | (go_simp; rfl)); (case hp => exact (Reps.one (show Kd.M Kd.string _ _ _ (⟨#[97]⟩ : ByteArray) [.string (⟨#[97]⟩ : ByteArray)] from rfl) (Reps.one (show Kd.M Kd.string _ _ _ (⟨#[98]⟩ : ByteArray) [.string (⟨#[98]⟩ : ByteArray)] from rfl) (Reps.one (show Kd.M Kd.string _ _ _ (⟨#[99]⟩ : ByteArray) [.string (⟨#[99]⟩ : ByteArray)] from rfl) (Reps.one (show Kd.M Kd.string _ _ _ (⟨#[100]⟩ : ByteArray) [.string (⟨#[100]⟩ : ByteArray)] from rfl) (Reps.one (show Kd.M Kd.string _ _ _ (⟨#[101]⟩ : ByteArray) [.string (⟨#[101]⟩ : ByteArray)] from rfl) (Reps.one (show Kd.M Kd.string _ _ _ (⟨#[102]⟩ : ByteArray) [.string (⟨#[102]⟩ : ByteArray)] from rfl) (Reps.one (show Kd.M Kd.string _ _ _ (⟨#[122, 122]⟩ : ByteArray) [.string (⟨#[122, 122]⟩ : ByteArray)] from rfl) (Reps.none _ _))))))))); intro v301 w4 ho5 hb hg_ hnew_; clear hg_ hnew_; (first | rw [← Ny300.out] at ho5 | (simp only [Int.reduceToNat] at ho5; rw [← Ny300.out] at ho5)); have HO302 := Aside0.mk (Kd.R_lower (Kd.R_new' ho5 (Kd.R_lt (zbd3 HO299.out))) (keep_size (w := w) (g := g) (row := none) zbd0)); replace HO299 := Aside0.mk (Kd.R_elder' (zbd3 HO299.out) (Kd.R_base ho5) hb); replace HK := Aside0.mk (KeepBut.trans zbd0 (KeepBut.of_below hb g none) (.inl rfl)); replace HB := Aside0.mk (below_step (zbd1 HI0.out) hb); replace HI0 := Aside0.mk (IsS94.below (zbd2 HI0.out) hb); clear hb ho5)); go_loopg [3, 5] k (fun kq v3 v5 w' => ∃ (x3_1 : List ByteArray) (x5_1 : Int) (x1001_1 : Int) (x1002_1 : Int), v5 = .int .i64 x5_1 ∧ Aside0 (spec_l18DrawNames.l0 kq x3_1 y300 x5_1 s0_0 x1001_1 x1002_1 = some (r1, r2, r3)) ∧ Aside0 (kq ≤ k) ∧ Aside0 (Kd.R Kd.string 9 w' w.heap.size (fun k_ => some k_ ≠ (v301 : Value).ownBlock) v3 x3_1) ∧ Aside0 (Kd.R Kd.string 9 w' w.heap.size (fun k_ => some k_ ≠ (v3 : Value).ownBlock) v301 y300) ∧ Aside0 (IsS94 w0 w' g s0_0 x1001_1 x1002_1) ∧ Aside0 (KeepBut w w' g none) ∧ Aside0 (Below w0.heap.size w0 w')); (case atStart => exact ⟨(y297), (0), (s0_1), (s0_2), zbd4, H', ⟨Nat.le_refl _⟩, ⟨zbd5 HO299.out⟩, ⟨zbd5 HO302.out⟩, ⟨zbd2 HI0.out⟩, ⟨zbd0⟩, ⟨zbd1 HI0.out⟩⟩); case round =>
  clear H'; (try clear p2); obtain ⟨x3_1, x5_1, x1001_1, x1002_1, rfl, HA, HK1, HO_3, HO_4, HI0, HK, HB⟩ := hrel
  cases gk with
  | zero => exact absurd HA.out (by simp [spec_l18DrawNames.l0])
  | succ k1 =>
   have H := HA.out; clear HA; simp only [spec_l18DrawNames.l0] at H; by_cases c6 : x5_1 < (y300.length : Int)
   ·rw [if_pos c6] at H; have c6b0 : decide (x5_1 < (y300.length : Int)) = true := decide_eq_true c6; clear c6; replace H := Option.bind_eq_some_iff.mp H; obtain ⟨⟨t303, t304, t305⟩, A70, H⟩ := H; dsimp only at H; have A7 := Aside0.mk A70; clear A70; by_cases c8 : t303 = true
    ·subst c8; rw [if_pos rfl] at H; by_cases c9 : 0 ≤ x5_1
     ·rw [if_pos c9] at H; have c9b0 : decide (0 ≤ x5_1) = true := decide_eq_true c9; clear c9; by_cases c10 : x3_1.length < 8796093022208
      ·rw [if_pos c10] at H; have LMc10 := Aside0.mk c10; clear c10; obtain ⟨y307, hy307⟩ : ∃ y_ : List ByteArray, y_ = (x3_1 ++ [rdOf ByteArray.empty y300 x5_1]) := ⟨_, rfl⟩; replace H : (spec_l18DrawNames.l0 k1 y307 y300 (wrap64 (x5_1 + 1)) s0_0 t304 t305) = some (r1, r2, r3) := by first | (rw [hy307]; with_reducible exact H) | (have H2_ := (Option.bind_some _ _).symm.trans H; rw [hy307]; with_reducible exact H2_) | (have H2_ := (Option.bind_some _ _).symm.trans H; with_reducible exact H2_) | with_reducible exact H | (rw [hy307]; exact H) | exact H
       have Ny307 := Aside0.mk hy307; clear hy307; have H' := Aside0.mk H; clear H; obtain ⟨Ao11, co11, eo11⟩ := Kd.R_slice HO_4.out; subst eo11; go_wp2_with (first | ((with_reducible refine gate_callee (f := 73) rfl ?_); refine goesL_ (some 15) rfl rfl Try.func73 (by kernel_rfl) rfl #[.pointer (some ⟨g, 0, none⟩), .int .i64 3] rfl zbd6 ?_; (with_reducible refine (spec_l1Once.calls g s0_0 x1001_1 x1002_1 3 true t304 t305 w0 _ ?side1 ?side2 A7.out).mono ?_); (case side1 => exact zbd2 HI0.out); (case side2 => exact zbd1 HI0.out); rintro e w12 ⟨rfl, hi, hb, hk⟩; refine ⟨_, rfl, ?_⟩; replace HO_3 := Aside0.mk (Kd.R_mono (Kd.R_keep (IsS94.apart (show IsS94 w0 _ g s0_0 x1001_1 x1002_1 from zbd2 HI0.out) (zbd3 HO_3.out) (by decide)) hk (fun _ h => h.2)) (fun _ h => h.1)); replace HO_4 := Aside0.mk (Kd.R_mono (Kd.R_keep (IsS94.apart (show IsS94 w0 _ g s0_0 x1001_1 x1002_1 from zbd2 HI0.out) (zbd3 HO_4.out) (by decide)) hk (fun _ h => h.2)) (fun _ h => h.1)); replace HK := Aside0.mk (KeepBut.trans zbd0 hk (.inl rfl)); replace HB := Aside0.mk (hb); replace HI0 := Aside0.mk (hi); (try clear hb); (try clear hb2); (try clear hk); (try clear hi); have p306 : 0 ≤ (x5_1 : Int) := of_decide_eq_true zbd7; have q306 : x5_1 < (y300.length : Int) := of_decide_eq_true zbd7; obtain ⟨ad306, e306, hx306_0⟩ := Kd.at_string (Kd.R_reads' HO_4.out).2.2 x5_1 p306 q306; cases e306; replace p306 := eq_true p306; replace q306 := eq_true q306) | ((with_reducible refine gate_builtin (b := .append) (xs := #[.tmp 16, .tmp 21]) rfl ?_); at_builtin; refine Kd.R_append Kd.string w.heap.size rfl (.tmp 16) (.tmp 21) 29 9 (.string ⟨#[]⟩) 16 rfl Try.underlying29 info9 rfl (by decide) (by omega) u3 x3_1 (rdOf ByteArray.empty y300 x5_1) [.string (rdOf ByteArray.empty y300 x5_1)] (fun k_ => some k_ ≠ (.slice (some ad306) y300.length co11 : Value).ownBlock) (fun _ => False) rfl rfl ?aP (fun _ hk => hk.elim) ?aF ?aO (Below.refl _ _) ?aS ?aL ?_; (case aP => exact rfl); (case aF => exact (fun k_ hk => Kd.fresh' (Kd.R_lt (zbd3 HO_4.out)) k_ hk)); (case aO => exact (zbd3 HO_3.out)); (case aS => exact (keep_size (w := w) (g := g) (row := none) zbd0)); (case aL => have := LMc10.out; omega); intro v308 w13 ho hb hg hat; rw [← Ny307.out] at ho; replace HO_4 := Aside0.mk (Kd.R_after (ok := (fun _ => True)) (by (with_reducible repeat (first | apply Kd.R_alloc | apply Kd.R_drewN | apply Kd.R_drew)); exact Kd.R_mono HO_4.out (fun _ hk => ⟨trivial, hk⟩)) hg hat); replace HB := Aside0.mk (below_weaken (zbd1 HI0.out) HL.out hb); replace HI0 := Aside0.mk (IsS94.grown (zbd2 HI0.out) hg (IsS94.own_ne HI0.out HO_3.out (by decide))); replace HK := Aside0.mk (KeepBut.trans zbd0 (KeepBut.of_grown hg g) (Kd.R_base2 HO_3.out)); have HO309 := Aside0.mk (ho); clear HO_3; clear ho hb hg hat)); go_roundg k1; (case measure => have := HK1.out; omega); case rel => exact ⟨(y307), (wrap64 (x5_1 + 1)), (t304), (t305), zbd4, H', ⟨by have := HK1.out; omega⟩, ⟨zbd3 HO309.out⟩, ⟨zbd5 HO_4.out⟩, ⟨zbd2 HI0.out⟩, ⟨zbd0⟩, ⟨zbd1 HI0.out⟩⟩
      ·rw [if_neg c10] at H; exact absurd H (by simp)
     ·rw [if_neg c9] at H; exact absurd H (by simp)
    ·replace c8 := Bool.eq_false_iff.mpr c8; subst c8; rw [if_neg (show ¬ (false = true) by decide)] at H; have H' := Aside0.mk H; clear H; obtain ⟨Ao14, co14, eo14⟩ := Kd.R_slice HO_4.out; subst eo14; go_wp2_with (first | ((with_reducible refine gate_callee (f := 73) rfl ?_); refine goesL_ (some 15) rfl rfl Try.func73 (by kernel_rfl) rfl #[.pointer (some ⟨g, 0, none⟩), .int .i64 3] rfl zbd6 ?_; (with_reducible refine (spec_l1Once.calls g s0_0 x1001_1 x1002_1 3 false t304 t305 w0 _ ?side1 ?side2 A7.out).mono ?_); (case side1 => exact zbd2 HI0.out); (case side2 => exact zbd1 HI0.out); rintro e w15 ⟨rfl, hi, hb, hk⟩; refine ⟨_, rfl, ?_⟩; replace HO_3 := Aside0.mk (Kd.R_mono (Kd.R_keep (IsS94.apart (show IsS94 w0 _ g s0_0 x1001_1 x1002_1 from zbd2 HI0.out) (zbd3 HO_3.out) (by decide)) hk (fun _ h => h.2)) (fun _ h => h.1)); replace HO_4 := Aside0.mk (Kd.R_mono (Kd.R_keep (IsS94.apart (show IsS94 w0 _ g s0_0 x1001_1 x1002_1 from zbd2 HI0.out) (zbd3 HO_4.out) (by decide)) hk (fun _ h => h.2)) (fun _ h => h.1)); replace HK := Aside0.mk (KeepBut.trans zbd0 hk (.inl rfl)); replace HB := Aside0.mk (hb); replace HI0 := Aside0.mk (hi); (try clear hb); (try clear hb2); (try clear hk); (try clear hi))); go_roundg k1; (case measure => have := HK1.out; omega); case rel => exact ⟨(x3_1), (wrap64 (x5_1 + 1)), (t304), (t305), zbd4, H', ⟨by have := HK1.out; omega⟩, ⟨zbd3 HO_3.out⟩, ⟨zbd3 HO_4.out⟩, ⟨zbd2 HI0.out⟩, ⟨zbd0⟩, ⟨zbd1 HI0.out⟩⟩
   ·rw [if_neg c6] at H; have c6b0 : decide (x5_1 < (y300.length : Int)) = false := decide_eq_false c6; clear c6; simp only [Option.some.injEq, Prod.mk.injEq] at H; obtain ⟨rfl, rfl, rfl⟩ := H; obtain ⟨Ao16, co16, eo16⟩ := Kd.R_slice HO_4.out; subst eo16; go_wp2; go_ret; exact ⟨_, zbd8, by (with_reducible repeat (first | apply Kd.R_alloc | apply Kd.R_drewN | apply Kd.R_drew)); exact Kd.R_mono HO_3.out (fun _ hk => trivial), zbd2 HI0.out, zbd1 HI0.out, zbd0⟩

/-! ### spec_DrawPlanUnits: function 44 -/
def spec_DrawPlanUnits.f (k : Nat) (l0 : List Int) : Option ((List (S55)) × (List (S55)) × List ByteArray) := (spec_l1New.f k l0).bind fun bt310 => ((spec_l18Draw.f k bt310.1 bt310.2.1 bt310.2.2).bind fun bt314 => ((spec_l18Draw.f k bt310.1 bt314.2.1 bt314.2.2).bind fun bt319 => ((spec_l18DrawNames.f k bt310.1 bt319.2.1 bt319.2.2).bind fun bt324 => (some (bt314.1, bt319.1, bt324.1)))))
theorem spec_DrawPlanUnits.mono : ∀ a0 k, LeO (spec_DrawPlanUnits.f k a0) (spec_DrawPlanUnits.f (k + 1) a0) := by
 intro a0 k; unfold spec_DrawPlanUnits.f
 repeat' first
   | (with_reducible exact spec_l18Draw.mono _ _ _ _)
   | (with_reducible exact spec_l18DrawNames.mono _ _ _ _)
   | (with_reducible exact spec_l1New.mono _ _)
   | (with_reducible exact LeO.refl _)
   | (with_reducible exact LeO.none _)
   | (with_reducible refine LeO.ite ?_ ?_)
   | (with_reducible refine LeO.bind ?_ (fun _ => ?_))
   | exact spec_l18Draw.mono _ _ _ _
   | exact spec_l18DrawNames.mono _ _ _ _
   | exact spec_l1New.mono _ _
   | exact LeO.none _
   | refine LeO.ite ?_ ?_
   | refine LeO.bind ?_ (fun _ => ?_)
set_option maxHeartbeats 8000000 in
set_option maxRecDepth 100000 in
theorem spec_DrawPlanUnits.calls (k : Nat) (A0 : Option Addr) (c0 : Nat) (l0 : List Int) (r1 : List (S55)) (r2 : List (S55)) (r3 : List ByteArray) (w : World) (hr0 : Kd.C (Kd.int .u8) w A0 l0.length l0) (hc0 : l0.length ≤ c0) (h : spec_DrawPlanUnits.f k l0 = some (r1, r2, r3)) :
  Calls Try.prog 44 #[.slice A0 l0.length c0] w fun e w' => ∃ v0_ v1_ v2_ : Value, e = .returned (.tuple #[v0_, v1_, v2_]) ∧ Kd.S k55 55 w' w.heap.size (fun k_ => some k_ ≠ (v1_ : Value).ownBlock ∧ some k_ ≠ (v2_ : Value).ownBlock) v0_ r1 ∧ Kd.S k55 55 w' w.heap.size (fun k_ => some k_ ≠ (v0_ : Value).ownBlock ∧ some k_ ≠ (v2_ : Value).ownBlock) v1_ r2 ∧ Kd.R Kd.string 9 w' w.heap.size (fun _ => True) v2_ r3 ∧ Below w.heap.size w w' := by
 have HR0 := Aside0.mk hr0; have HC0 := Aside0.mk hc0; clear hr0 hc0; have HB := Aside0.mk (Below.refl w.heap.size w); have H : ((spec_l1New.f k l0).bind fun bt310 => ((spec_l18Draw.f k bt310.1 bt310.2.1 bt310.2.2).bind fun bt314 => ((spec_l18Draw.f k bt310.1 bt314.2.1 bt314.2.2).bind fun bt319 => ((spec_l18DrawNames.f k bt310.1 bt319.2.1 bt319.2.2).bind fun bt324 => (some (bt314.1, bt319.1, bt324.1)))))) = some (r1, r2, r3) := h; clear h; replace H := Option.bind_eq_some_iff.mp H; obtain ⟨⟨t310, t311, t312⟩, A20, H⟩ := H; dsimp only at H; have A2 := Aside0.mk A20; clear A20; replace H := Option.bind_eq_some_iff.mp H; obtain ⟨⟨t314, t317, t318⟩, A30, H⟩ := H; dsimp only at H; have A3 := Aside0.mk A30; clear A30; replace H := Option.bind_eq_some_iff.mp H; obtain ⟨⟨t319, t322, t323⟩, A40, H⟩ := H; dsimp only at H; have A4 := Aside0.mk A40; clear A40; replace H := Option.bind_eq_some_iff.mp H; obtain ⟨⟨t324, t327, t328⟩, A50, H⟩ := H; dsimp only at H; have A5 := Aside0.mk A50; clear A50; simp only [Option.some.injEq, Prod.mk.injEq] at H; obtain ⟨rfl, rfl, rfl⟩ := H; go_enter Try.func44, Try.ntmps44; go_wp2_with (first | ((with_reducible refine gate_callee (f := 70) rfl ?_); refine goesL_ (some 10) rfl rfl Try.func70 (by kernel_rfl) rfl #[.slice A0 l0.length c0] rfl zbd6 ?_; (with_reducible refine (spec_l1New.calls k _ _ l0 t310 t311 t312 w _ ?side1 ?side2 ?side3 A2.out).mono ?_); (case side1 => repeat (first | (with_reducible first | exact HB.out | apply below_alloc | apply pw_below_drewN | apply below_drew1) | exact HB.out)); (case side2 => exact HR0.out); (case side3 => exact HC0.out); rintro e w6 ⟨g313, rfl, hi, hb, hb2⟩; refine ⟨_, rfl, ?_⟩; replace HB := Aside0.mk (hb); have HI313 := Aside0.mk (hi); (try clear hb); (try clear hb2); (try clear hk); (try clear hi)) | ((with_reducible refine gate_callee (f := 71) rfl ?_); refine goesL_ (some 12) rfl rfl Try.func71 (by kernel_rfl) rfl #[.pointer (some ⟨g313, 0, none⟩)] rfl zbd6 ?_; (with_reducible refine (spec_l18Draw.calls k g313 t310 t311 t312 t314 t317 t318 w _ ?side1 ?side2 A3.out).mono ?_); (case side1 => exact zbd2 HI313.out); (case side2 => exact zbd1 HI313.out); rintro e w7 ⟨v315, rfl, ho0, hi, hb, hk⟩; refine ⟨_, rfl, ?_⟩; have HO316 := Aside0.mk (Kd.S_lower ho0 (below_size (zbd1 HI313.out))); replace HB := Aside0.mk (hb); replace HI313 := Aside0.mk (hi); (try clear hb); (try clear hb2); (try clear hk); (try clear hi); (try clear ho0)) | ((with_reducible refine gate_callee (f := 71) rfl ?_); refine goesL_ (some 14) rfl rfl Try.func71 (by kernel_rfl) rfl #[.pointer (some ⟨g313, 0, none⟩)] rfl zbd6 ?_; (with_reducible refine (spec_l18Draw.calls k g313 t310 t317 t318 t319 t322 t323 w _ ?side1 ?side2 A4.out).mono ?_); (case side1 => exact zbd2 HI313.out); (case side2 => exact zbd1 HI313.out); rintro e w8 ⟨v320, rfl, ho0, hi, hb, hk⟩; refine ⟨_, rfl, ?_⟩; have HO321 := Aside0.mk (Kd.S_lower (Kd.S_new' ho0 (Kd.S_lt (zbd9 HO316.out))) (below_size (zbd1 HI313.out))); replace HO316 := Aside0.mk (Kd.S_mono (Kd.S_told (Kd.S_oldK (IsS94.apartS (show IsS94 w _ g313 t310 t317 t318 from zbd2 HI313.out) (zbd9 HO316.out) (by decide)) hk) (Kd.S_base ho0)) (fun _ h_ => h_.1)); replace HB := Aside0.mk (hb); replace HI313 := Aside0.mk (hi); (try clear hb); (try clear hb2); (try clear hk); (try clear hi); (try clear ho0)) | ((with_reducible refine gate_callee (f := 72) rfl ?_); refine goesL_ (some 16) rfl rfl Try.func72 (by kernel_rfl) rfl #[.pointer (some ⟨g313, 0, none⟩)] rfl zbd6 ?_; (with_reducible refine (spec_l18DrawNames.calls k g313 t310 t322 t323 t324 t327 t328 w _ ?side1 ?side2 A5.out).mono ?_); (case side1 => exact zbd2 HI313.out); (case side2 => exact zbd1 HI313.out); rintro e w9 ⟨v325, rfl, ho0, hi, hb, hk⟩; refine ⟨_, rfl, ?_⟩; replace HO316 := Aside0.mk (Kd.S_mono (Kd.S_told (Kd.S_oldK (IsS94.apartS (show IsS94 w _ g313 t310 t322 t323 from zbd2 HI313.out) (zbd9 HO316.out) (by decide)) hk) (Kd.R_base ho0)) (fun _ h_ => h_.1)); replace HO321 := Aside0.mk (Kd.S_mono (Kd.S_told (Kd.S_oldK (IsS94.apartS (show IsS94 w _ g313 t310 t322 t323 from zbd2 HI313.out) (zbd9 HO321.out) (by decide)) hk) (Kd.R_base ho0)) (fun _ h_ => h_.1)); have HO326 := Aside0.mk (Kd.R_lower ho0 (below_size (zbd1 HI313.out))); replace HB := Aside0.mk (hb); replace HI313 := Aside0.mk (hi); (try clear hb); (try clear hb2); (try clear hk); (try clear hi); (try clear ho0))); go_ret3; exact ⟨_, _, _, zbd8, zbd10 HO316.out, zbd10 HO321.out, zbd3 HO326.out, zbd1 HI313.out⟩

/-! ### laws_sameTexts: function 45 -/
def laws_sameTexts.l0 : Nat → List ByteArray → List ByteArray → Int → Option (Bool)
 | 0, _, _, _ => none
 | k + 1, x0, x1, x5 => if x5 < (x0.length : Int) then (if 0 ≤ x5 then (if x5 < (x1.length : Int) then (if (rdOf ByteArray.empty x0 x5).toList = (rdOf ByteArray.empty x1 x5).toList then (laws_sameTexts.l0 k x0 x1 (wrap64 (x5 + 1))) else (some false)) else (none)) else (none)) else (some true)
def laws_sameTexts.f (k : Nat) (l0 : List ByteArray) (l1 : List ByteArray) : Option (Bool) := if (l0.length : Int) = (l1.length : Int) then (laws_sameTexts.l0 k l0 l1 0) else (some false)
theorem laws_sameTexts.mono_l : ∀ k, (∀ y0 y1 y2, LeO (laws_sameTexts.l0 k y0 y1 y2) (laws_sameTexts.l0 (k + 1) y0 y1 y2))
 | 0 => fun _ _ _ r h => by simp [laws_sameTexts.l0] at h
 | k + 1 => by
  have ih0 := laws_sameTexts.mono_l k
  ·intro y0 y1 y2; unfold laws_sameTexts.l0
   repeat' first
   | (with_reducible exact ih0 _ _ _)
   | (with_reducible exact LeO.refl _)
   | (with_reducible exact LeO.none _)
   | (with_reducible refine LeO.ite ?_ ?_)
   | (with_reducible refine LeO.bind ?_ (fun _ => ?_))
   | exact ih0 _ _ _
   | exact LeO.none _
   | refine LeO.ite ?_ ?_
   | refine LeO.bind ?_ (fun _ => ?_)
theorem laws_sameTexts.mono : ∀ a0 a1 k, LeO (laws_sameTexts.f k a0 a1) (laws_sameTexts.f (k + 1) a0 a1) := by
 intro a0 a1 k; have ih0 := laws_sameTexts.mono_l k; unfold laws_sameTexts.f
 repeat' first
   | (with_reducible exact ih0 _ _ _)
   | (with_reducible exact LeO.refl _)
   | (with_reducible exact LeO.none _)
   | (with_reducible refine LeO.ite ?_ ?_)
   | (with_reducible refine LeO.bind ?_ (fun _ => ?_))
   | exact ih0 _ _ _
   | exact LeO.none _
   | refine LeO.ite ?_ ?_
   | refine LeO.bind ?_ (fun _ => ?_)
set_option maxHeartbeats 8000000 in
set_option maxRecDepth 100000 in
theorem laws_sameTexts.calls (k : Nat) (A0 : Option Addr) (c0 : Nat) (l0 : List ByteArray) (A1 : Option Addr) (c1 : Nat) (l1 : List ByteArray) (r : Bool) (w : World) (hr0 : Kd.C Kd.string w A0 l0.length l0) (hc0 : l0.length ≤ c0) (hr1 : Kd.C Kd.string w A1 l1.length l1) (hc1 : l1.length ≤ c1) (h : laws_sameTexts.f k l0 l1 = some r) :
  Calls Try.prog 45 #[.slice A0 l0.length c0, .slice A1 l1.length c1] w fun e w' => e = .returned (.bool r) ∧ Drawn0 w w' := by
 have HR0 := Aside0.mk hr0; have HC0 := Aside0.mk hc0; clear hr0 hc0; have HR1 := Aside0.mk hr1; have HC1 := Aside0.mk hc1; clear hr1 hc1; have H : (if (l0.length : Int) = (l1.length : Int) then (laws_sameTexts.l0 k l0 l1 0) else (some false)) = some r := h; clear h; by_cases c3 : (l0.length : Int) = (l1.length : Int)
 ·rw [if_pos c3] at H; have c3b0 : ((l0.length : Int) == (l1.length : Int)) = true := beq_iff_eq.mpr c3; have c3b1 : ((l0.length : Int) != (l1.length : Int)) = false := bne_eq_false_iff_eq.mpr c3; have c3b2 : (l0.length == l1.length) = true := by first | simpa using c3 | (simp at c3 ⊢; omega)
  clear c3; have H' := Aside0.mk H; clear H; go_enter Try.func45, Try.ntmps45; go_wp2; (repeat (go_quiet (fail); try go_wp2)); go_loopg [5] k (fun kq v5 w' => ∃ (x5_1 : Int), v5 = .int .i64 x5_1 ∧ Aside0 (laws_sameTexts.l0 kq l0 l1 x5_1 = some r) ∧ Aside0 (kq ≤ k) ∧ Drawn0 w w'); (case atStart => exact ⟨(0), zbd4, H', ⟨Nat.le_refl _⟩, zbd11⟩); case round =>
   clear H'; (try clear c1); (try clear p2); (try clear c3); (try clear c3b0); (try clear c3b1); (try clear c3b2); obtain ⟨x5_1, rfl, HA, HK1, ⟨m1, rfl⟩⟩ := hrel
   cases gk with
   | zero => exact absurd HA.out (by simp [laws_sameTexts.l0])
   | succ k1 =>
    have H := HA.out; clear HA; simp only [laws_sameTexts.l0] at H; by_cases c4 : x5_1 < (l0.length : Int)
    ·rw [if_pos c4] at H; have c4b0 : decide (x5_1 < (l0.length : Int)) = true := decide_eq_true c4; clear c4; by_cases c5 : 0 ≤ x5_1
     ·rw [if_pos c5] at H; have c5b0 : decide (0 ≤ x5_1) = true := decide_eq_true c5; clear c5; by_cases c6 : x5_1 < (l1.length : Int)
      ·rw [if_pos c6] at H; have c6b0 : decide (x5_1 < (l1.length : Int)) = true := decide_eq_true c6; clear c6; by_cases c7 : (rdOf ByteArray.empty l0 x5_1).toList = (rdOf ByteArray.empty l1 x5_1).toList
       ·rw [if_pos c7] at H; have c7b0 : ((rdOf ByteArray.empty l0 x5_1).toList == (rdOf ByteArray.empty l1 x5_1).toList) = true := beq_iff_eq.mpr c7; have c7b1 : ((rdOf ByteArray.empty l0 x5_1).toList != (rdOf ByteArray.empty l1 x5_1).toList) = false := bne_eq_false_iff_eq.mpr c7; clear c7; have H' := Aside0.mk H; clear H; have p329 : 0 ≤ (x5_1 : Int) := of_decide_eq_true zbd7; have q329 : x5_1 < (l0.length : Int) := of_decide_eq_true zbd7; obtain ⟨ad329, e329, hx329_0⟩ := Kd.at_string HR0.out x5_1 p329 q329; cases e329; replace p329 := eq_true p329; replace q329 := eq_true q329; have p330 : 0 ≤ (x5_1 : Int) := of_decide_eq_true zbd7; have q330 : x5_1 < (l1.length : Int) := of_decide_eq_true zbd7; obtain ⟨ad330, e330, hx330_0⟩ := Kd.at_string HR1.out x5_1 p330 q330; cases e330; replace p330 := eq_true p330; replace q330 := eq_true q330; go_wp2; (repeat (go_quiet (fail); try go_wp2)); go_roundg k1; (case measure => have := HK1.out; omega); case rel => exact ⟨(wrap64 (x5_1 + 1)), zbd4, H', ⟨by have := HK1.out; omega⟩, zbd11⟩
       ·rw [if_neg c7] at H; have c7b0 : ((rdOf ByteArray.empty l0 x5_1).toList == (rdOf ByteArray.empty l1 x5_1).toList) = false := beq_eq_false_iff_ne.mpr c7; have c7b1 : ((rdOf ByteArray.empty l0 x5_1).toList != (rdOf ByteArray.empty l1 x5_1).toList) = true := bne_iff_ne.mpr c7; obtain rfl := Option.some.inj H; have p329 : 0 ≤ (x5_1 : Int) := of_decide_eq_true zbd7; have q329 : x5_1 < (l0.length : Int) := of_decide_eq_true zbd7; obtain ⟨ad329, e329, hx329_0⟩ := Kd.at_string HR0.out x5_1 p329 q329; cases e329; replace p329 := eq_true p329; replace q329 := eq_true q329; have p330 : 0 ≤ (x5_1 : Int) := of_decide_eq_true zbd7; have q330 : x5_1 < (l1.length : Int) := of_decide_eq_true zbd7; obtain ⟨ad330, e330, hx330_0⟩ := Kd.at_string HR1.out x5_1 p330 q330; cases e330; replace p330 := eq_true p330; replace q330 := eq_true q330; go_wp2; (repeat (go_quiet (fail); try go_wp2)); go_ret; exact ⟨zbd4, zbd11⟩
      ·rw [if_neg c6] at H; exact absurd H (by simp)
     ·rw [if_neg c5] at H; exact absurd H (by simp)
    ·rw [if_neg c4] at H; have c4b0 : decide (x5_1 < (l0.length : Int)) = false := decide_eq_false c4; clear c4; obtain rfl := Option.some.inj H; go_wp2; (repeat (go_quiet (fail); try go_wp2)); go_ret; exact ⟨zbd4, zbd11⟩
 ·rw [if_neg c3] at H; have c3b0 : ((l0.length : Int) == (l1.length : Int)) = false := beq_eq_false_iff_ne.mpr c3; have c3b1 : ((l0.length : Int) != (l1.length : Int)) = true := bne_iff_ne.mpr c3; have c3b2 : (l0.length == l1.length) = false := by first | simpa using c3 | (simp at c3 ⊢; omega)
  obtain rfl := Option.some.inj H; go_enter Try.func45, Try.ntmps45; go_wp2; (repeat (go_quiet (fail); try go_wp2)); go_ret; exact ⟨zbd4, zbd11⟩

end Go.Proofs.Ytnahkojlamficaa.PFnPlanReaches
