-- Laid by a program of this session: a turned copy of the kit's print, with contracts by hand beside.
import Derived.Test.YtnahkojlamficaaPFnFailingx0
import Derived.Test.YtnahkojlamficaaPFnFailingx9
import Derived.Test.YtnahkojlamficaaPFnFailingx10
namespace Go.Proofs.Ytnahkojlamficaa.PFnFailing
open Go.RowKit Go.Proofs.YtnahkojlamficaaW.PrintWords Go.Proofs.YtnahkojlamficaaW.PrintLast Go.Proofs.YtnahkojlamficaaW.PrintMore
theorem zbb0 {X : Prop} (h : X := by repeat (first | (with_reducible first | exact HK.out | apply KeepBut.set_ | apply keep_drewN | apply keep_drew | apply keep_alloc) | exact HK.out)) : X := h
theorem zbb1 {A0 X : Prop} (a0 : A0) (h : A0 → X := by intro a0_; repeat (first | (with_reducible first | exact HB.out | apply below_alloc | apply pw_below_drewN | apply below_drew1 | refine below_set ?_ (IsS94.ge a0_)) | exact HB.out)) : X := h a0
theorem zbb2 {A0 X : Prop} (a0 : A0) (h : A0 → X := by intro a0_; repeat (first | (with_reducible first | exact a0_ | apply IsS94.alloc | apply IsS94.drewN | apply IsS94.drew | apply IsS94.set_1 | apply IsS94.set_2) | exact a0_)) : X := h a0
theorem zbb3 {A0 X : Prop} (a0 : A0) (h : A0 → X := by intro a0_; (with_reducible repeat (first | apply Kd.R_alloc | apply Kd.R_drewN | apply Kd.R_drew)); exact a0_) : X := h a0
theorem zbb4 {X : Prop} (h : X := by first | rfl | (simp; done) | (simp [*]; done)) : X := h
theorem zbb5 {A0 X : Prop} (a0 : A0) (h : A0 → X := by intro a0_; (with_reducible repeat (first | apply Kd.R_alloc | apply Kd.R_drewN | apply Kd.R_drew)); exact Kd.R_mono a0_ (fun _ hk => hk.2)) : X := h a0
theorem zbb6 {X : Prop} (h : X := by (try simp only [List.map_toArray, List.map_cons, List.map_nil]); first | done | rfl | (simp only [List.length_drop, List.length_take]; rfl)) : X := h
theorem zbb7 {X : Prop} (h : X := by first | (with_reducible assumption) | assumption) : X := h
theorem zbb8 {X : Prop} (h : X := by first | rfl | (simp [errW_none, errW_some] <;> rfl) | (simp [*, errW_none, errW_some] <;> rfl)) : X := h
theorem zbb9 {X : Prop} (h : X := by repeat (first | exact Drawn0.refl _ | apply Drawn0.step)) : X := h
attribute [local go_sem] max2_int min2_int max_two min_two max_three min_three max_four min_four   -- for this text's walks alone
set_option linter.unusedVariables false
set_option linter.unusedSimpArgs false

/-! ### spec_l18DrawNames: function 72 -/
def spec_l18DrawNames.l0 : Nat → List ByteArray → List ByteArray → Int → List Int → Int → Int → Option (List ByteArray × Int × Int)
 | 0, _, _, _, _, _, _ => none
 | k + 1, x3, x4, x5, x1000, x1001, x1002 => if x5 < (x4.length : Int) then ((spec_l1Once.f x1000 x1001 x1002 3).bind fun bt228 => (if bt228.1 = true then (if 0 ≤ x5 then (if x3.length < 8796093022208 then (spec_l18DrawNames.l0 k (x3 ++ [rdOf ByteArray.empty x4 x5]) x4 (wrap64 (x5 + 1)) x1000 bt228.2.1 bt228.2.2) else (none)) else (none)) else (spec_l18DrawNames.l0 k x3 x4 (wrap64 (x5 + 1)) x1000 bt228.2.1 bt228.2.2))) else (some (x3, x1001, x1002))
def spec_l18DrawNames.f (k : Nat) (s0_0 : List Int) (s0_1 : Int) (s0_2 : Int) : Option (List ByteArray × Int × Int) := spec_l18DrawNames.l0 k (([] : List ByteArray)) (([(⟨#[97]⟩ : ByteArray), (⟨#[98]⟩ : ByteArray), (⟨#[99]⟩ : ByteArray), (⟨#[100]⟩ : ByteArray), (⟨#[101]⟩ : ByteArray), (⟨#[102]⟩ : ByteArray), (⟨#[122, 122]⟩ : ByteArray)] : List ByteArray)) 0 s0_0 s0_1 s0_2
theorem spec_l18DrawNames.mono_l : ∀ k, (∀ y0 y1 y2 y3 y4 y5, LeO (spec_l18DrawNames.l0 k y0 y1 y2 y3 y4 y5) (spec_l18DrawNames.l0 (k + 1) y0 y1 y2 y3 y4 y5))
 | 0 => fun _ _ _ _ _ _ r h => by simp [spec_l18DrawNames.l0] at h
 | k + 1 => by
  have ih0 := spec_l18DrawNames.mono_l k
  ·intro y0 y1 y2 y3 y4 y5
   unfold spec_l18DrawNames.l0
   repeat' first
   | (with_reducible exact ih0 _ _ _ _ _ _)
   | (with_reducible exact LeO.refl _)
   | (with_reducible exact LeO.none _)
   | (with_reducible refine LeO.ite ?_ ?_)
   | (with_reducible refine LeO.bind ?_ (fun _ => ?_))
   | exact ih0 _ _ _ _ _ _
   | exact LeO.none _
   | refine LeO.ite ?_ ?_
   | refine LeO.bind ?_ (fun _ => ?_)
theorem spec_l18DrawNames.mono : ∀ a0 a1 a2 k, LeO (spec_l18DrawNames.f k a0 a1 a2) (spec_l18DrawNames.f (k + 1) a0 a1 a2) := by
 intro a0 a1 a2 k
 have ih0 := spec_l18DrawNames.mono_l k
 unfold spec_l18DrawNames.f
 repeat' first
   | (with_reducible exact ih0 _ _ _ _ _ _)
   | (with_reducible exact LeO.refl _)
   | (with_reducible exact LeO.none _)
   | (with_reducible refine LeO.ite ?_ ?_)
   | (with_reducible refine LeO.bind ?_ (fun _ => ?_))
   | exact ih0 _ _ _ _ _ _
   | exact LeO.none _
   | refine LeO.ite ?_ ?_
   | refine LeO.bind ?_ (fun _ => ?_)
set_option maxHeartbeats 8000000 in
set_option maxRecDepth 100000 in
theorem spec_l18DrawNames.calls (k : Nat) (g : Nat) (s0_0 : List Int) (s0_1 : Int) (s0_2 : Int) (r1 : List ByteArray) (r2 : Int) (r3 : Int) (w0 w : World) (hI : IsS94 w0 w g s0_0 s0_1 s0_2) (hB : Below w0.heap.size w0 w) (h : spec_l18DrawNames.f k s0_0 s0_1 s0_2 = some (r1, r2, r3)) :
  Calls Try.prog 72 #[.pointer (some ⟨g, 0, none⟩)] w fun e w' => ∃ v0_ : Value, e = .returned (v0_) ∧ Kd.R Kd.string 9 w' w.heap.size (fun _ => True) v0_ r1 ∧ IsS94 w0 w' g s0_0 r2 r3 ∧ Below w0.heap.size w0 w' ∧ KeepBut w w' g none := by
 have HI0 := Aside0.mk hI
 have HK := Aside0.mk (KeepBut.refl w g none)
 have HL := Aside0.mk hB.size
 clear hI
 have HW0 := Aside0.mk hB.size
 have HB := Aside0.mk hB
 clear hB
 have H : (spec_l18DrawNames.l0 k (([] : List ByteArray)) (([(⟨#[97]⟩ : ByteArray), (⟨#[98]⟩ : ByteArray), (⟨#[99]⟩ : ByteArray), (⟨#[100]⟩ : ByteArray), (⟨#[101]⟩ : ByteArray), (⟨#[102]⟩ : ByteArray), (⟨#[122, 122]⟩ : ByteArray)] : List ByteArray)) 0 s0_0 s0_1 s0_2) = some (r1, r2, r3) := h
 clear h
 obtain ⟨y222, hy222⟩ : ∃ y_ : List ByteArray, y_ = (([] : List ByteArray)) := ⟨_, rfl⟩
 replace H : (spec_l18DrawNames.l0 k y222 (([(⟨#[97]⟩ : ByteArray), (⟨#[98]⟩ : ByteArray), (⟨#[99]⟩ : ByteArray), (⟨#[100]⟩ : ByteArray), (⟨#[101]⟩ : ByteArray), (⟨#[102]⟩ : ByteArray), (⟨#[122, 122]⟩ : ByteArray)] : List ByteArray)) 0 s0_0 s0_1 s0_2) = some (r1, r2, r3) := by first | (rw [hy222]; with_reducible exact H) | (have H2_ := (Option.bind_some _ _).symm.trans H; rw [hy222]; with_reducible exact H2_) | (have H2_ := (Option.bind_some _ _).symm.trans H; with_reducible exact H2_) | with_reducible exact H | (rw [hy222]; exact H) | exact H
 have Ny222 := Aside0.mk hy222
 clear hy222
 obtain ⟨y225, hy225⟩ : ∃ y_ : List ByteArray, y_ = (([(⟨#[97]⟩ : ByteArray), (⟨#[98]⟩ : ByteArray), (⟨#[99]⟩ : ByteArray), (⟨#[100]⟩ : ByteArray), (⟨#[101]⟩ : ByteArray), (⟨#[102]⟩ : ByteArray), (⟨#[122, 122]⟩ : ByteArray)] : List ByteArray)) := ⟨_, rfl⟩
 replace H : (spec_l18DrawNames.l0 k y222 y225 0 s0_0 s0_1 s0_2) = some (r1, r2, r3) := by first | (rw [hy225]; with_reducible exact H) | (have H2_ := (Option.bind_some _ _).symm.trans H; rw [hy225]; with_reducible exact H2_) | (have H2_ := (Option.bind_some _ _).symm.trans H; with_reducible exact H2_) | with_reducible exact H | (rw [hy225]; exact H) | exact H
 have Ny225 := Aside0.mk hy225
 clear hy225
 have H' := Aside0.mk H
 clear H
 go_enter Try.func72, Try.ntmps72
 go_wp2_with (first | ((with_reducible refine gate_dst (N := 6) rfl ?_); refine Kd.R_lit Kd.string _ 9 ?hg (N := 6) ?hd (xs := ([] : List ByteArray)) (inner := []) (ok := fun _ => True) (okp := fun _ => True) ?hr ?hp (fun _ hk => hk) trivial (Below.refl _ _) (Nat.le_refl _) (by simp) ?_; (case hd => rfl); (case hg => rfl); (case hr => first | (go_simp; done) | (go_simp; rfl)); (case hp => exact (Reps.none _ _)); intro v223 w2 ho3 hb hg_ hnew_; clear hg_ hnew_; (first | rw [← Ny222.out] at ho3 | (simp only [Int.reduceToNat] at ho3; rw [← Ny222.out] at ho3)); have HO224 := Aside0.mk (Kd.R_lower ho3 (keep_size (w := w) (g := g) (row := none) zbb0)); replace HK := Aside0.mk (KeepBut.trans zbb0 (KeepBut.of_below hb g none) (.inl rfl)); replace HB := Aside0.mk (below_step (zbb1 HI0.out) hb); replace HI0 := Aside0.mk (IsS94.below (zbb2 HI0.out) hb); clear hb ho3) | ((with_reducible refine gate_dst (N := 7) rfl ?_); refine Kd.R_lit Kd.string _ 9 ?hg (N := 7) ?hd (xs := ([(⟨#[97]⟩ : ByteArray), (⟨#[98]⟩ : ByteArray), (⟨#[99]⟩ : ByteArray), (⟨#[100]⟩ : ByteArray), (⟨#[101]⟩ : ByteArray), (⟨#[102]⟩ : ByteArray), (⟨#[122, 122]⟩ : ByteArray)] : List ByteArray)) (inner := [.string (⟨#[97]⟩ : ByteArray), .string (⟨#[98]⟩ : ByteArray), .string (⟨#[99]⟩ : ByteArray), .string (⟨#[100]⟩ : ByteArray), .string (⟨#[101]⟩ : ByteArray), .string (⟨#[102]⟩ : ByteArray), .string (⟨#[122, 122]⟩ : ByteArray)]) (ok := fun _ => True) (okp := fun _ => True) ?hr ?hp (fun _ hk => hk) trivial (Below.refl _ _) (Nat.le_refl _) (by simp) ?_; (case hd => rfl); (case hg => rfl); (case hr => first | (go_simp; done) | (go_simp; rfl)); (case hp => exact (Reps.one (show Kd.M Kd.string _ _ _ (⟨#[97]⟩ : ByteArray) [.string (⟨#[97]⟩ : ByteArray)] from rfl) (Reps.one (show Kd.M Kd.string _ _ _ (⟨#[98]⟩ : ByteArray) [.string (⟨#[98]⟩ : ByteArray)] from rfl) (Reps.one (show Kd.M Kd.string _ _ _ (⟨#[99]⟩ : ByteArray) [.string (⟨#[99]⟩ : ByteArray)] from rfl) (Reps.one (show Kd.M Kd.string _ _ _ (⟨#[100]⟩ : ByteArray) [.string (⟨#[100]⟩ : ByteArray)] from rfl) (Reps.one (show Kd.M Kd.string _ _ _ (⟨#[101]⟩ : ByteArray) [.string (⟨#[101]⟩ : ByteArray)] from rfl) (Reps.one (show Kd.M Kd.string _ _ _ (⟨#[102]⟩ : ByteArray) [.string (⟨#[102]⟩ : ByteArray)] from rfl) (Reps.one (show Kd.M Kd.string _ _ _ (⟨#[122, 122]⟩ : ByteArray) [.string (⟨#[122, 122]⟩ : ByteArray)] from rfl) (Reps.none _ _))))))))); intro v226 w4 ho5 hb hg_ hnew_; clear hg_ hnew_; (first | rw [← Ny225.out] at ho5 | (simp only [Int.reduceToNat] at ho5; rw [← Ny225.out] at ho5)); have HO227 := Aside0.mk (Kd.R_lower (Kd.R_new' ho5 (Kd.R_lt (zbb3 HO224.out))) (keep_size (w := w) (g := g) (row := none) zbb0)); replace HO224 := Aside0.mk (Kd.R_elder' (zbb3 HO224.out) (Kd.R_base ho5) hb); replace HK := Aside0.mk (KeepBut.trans zbb0 (KeepBut.of_below hb g none) (.inl rfl)); replace HB := Aside0.mk (below_step (zbb1 HI0.out) hb); replace HI0 := Aside0.mk (IsS94.below (zbb2 HI0.out) hb); clear hb ho5))
 go_loopg [3, 5] k (fun kq v3 v5 w' => ∃ (x3_1 : List ByteArray) (x5_1 : Int) (x1001_1 : Int) (x1002_1 : Int), v5 = .int .i64 x5_1 ∧ Aside0 (spec_l18DrawNames.l0 kq x3_1 y225 x5_1 s0_0 x1001_1 x1002_1 = some (r1, r2, r3)) ∧ Aside0 (kq ≤ k) ∧ Aside0 (Kd.R Kd.string 9 w' w.heap.size (fun k_ => some k_ ≠ (v226 : Value).ownBlock) v3 x3_1) ∧ Aside0 (Kd.R Kd.string 9 w' w.heap.size (fun k_ => some k_ ≠ (v3 : Value).ownBlock) v226 y225) ∧ Aside0 (IsS94 w0 w' g s0_0 x1001_1 x1002_1) ∧ Aside0 (KeepBut w w' g none) ∧ Aside0 (Below w0.heap.size w0 w'))
 case atStart => exact ⟨(y222), (0), (s0_1), (s0_2), zbb4, H', ⟨Nat.le_refl _⟩, ⟨zbb5 HO224.out⟩, ⟨zbb5 HO227.out⟩, ⟨zbb2 HI0.out⟩, ⟨zbb0⟩, ⟨zbb1 HI0.out⟩⟩
 case round =>
  clear H'
  try clear p2
  obtain ⟨x3_1, x5_1, x1001_1, x1002_1, rfl, HA, HK1, HO_3, HO_4, HI0, HK, HB⟩ := hrel
  cases gk with
  | zero => exact absurd HA.out (by simp [spec_l18DrawNames.l0])
  | succ k1 =>
   have H := HA.out
   clear HA
   simp only [spec_l18DrawNames.l0] at H
   by_cases c6 : x5_1 < (y225.length : Int)
   ·rw [if_pos c6] at H
    have c6b0 : decide (x5_1 < (y225.length : Int)) = true := decide_eq_true c6
    clear c6
    replace H := Option.bind_eq_some_iff.mp H
    obtain ⟨⟨t228, t229, t230⟩, A70, H⟩ := H
    replace H : (if t228 = true then (if 0 ≤ x5_1 then (if x3_1.length < 8796093022208 then (spec_l18DrawNames.l0 k1 (x3_1 ++ [rdOf ByteArray.empty y225 x5_1]) y225 (wrap64 (x5_1 + 1)) s0_0 t229 t230) else (none)) else (none)) else (spec_l18DrawNames.l0 k1 x3_1 y225 (wrap64 (x5_1 + 1)) s0_0 t229 t230)) = some (r1, r2, r3) := H
    have A7 := Aside0.mk A70
    clear A70
    by_cases c8 : t228 = true
    ·subst c8
     have H1 : (if 0 ≤ x5_1 then (if x3_1.length < 8796093022208 then (spec_l18DrawNames.l0 k1 (x3_1 ++ [rdOf ByteArray.empty y225 x5_1]) y225 (wrap64 (x5_1 + 1)) s0_0 t229 t230) else (none)) else (none)) = some (r1, r2, r3) := by rw [if_pos rfl] at H; exact H
     clear H
     have H := H1
     clear H1
     by_cases c9 : 0 ≤ x5_1
     ·rw [if_pos c9] at H
      have c9b0 : decide (0 ≤ x5_1) = true := decide_eq_true c9
      clear c9
      by_cases c10 : x3_1.length < 8796093022208
      ·rw [if_pos c10] at H
       have LMc10 := Aside0.mk c10
       clear c10
       obtain ⟨y232, hy232⟩ : ∃ y_ : List ByteArray, y_ = (x3_1 ++ [rdOf ByteArray.empty y225 x5_1]) := ⟨_, rfl⟩
       replace H : (spec_l18DrawNames.l0 k1 y232 y225 (wrap64 (x5_1 + 1)) s0_0 t229 t230) = some (r1, r2, r3) := by first | (rw [hy232]; with_reducible exact H) | (have H2_ := (Option.bind_some _ _).symm.trans H; rw [hy232]; with_reducible exact H2_) | (have H2_ := (Option.bind_some _ _).symm.trans H; with_reducible exact H2_) | with_reducible exact H | (rw [hy232]; exact H) | exact H
       have Ny232 := Aside0.mk hy232
       clear hy232
       have H' := Aside0.mk H
       clear H
       obtain ⟨Ao11, co11, eo11⟩ := Kd.R_slice HO_4.out
       subst eo11
       go_wp2_with (first | ((with_reducible refine gate_callee (f := 73) rfl ?_); refine goesL_ (some 15) rfl rfl Try.func73 (by kernel_rfl) rfl #[.pointer (some ⟨g, 0, none⟩), .int .i64 3] rfl zbb6 ?_; (with_reducible refine (spec_l1Once.calls g s0_0 x1001_1 x1002_1 3 true t229 t230 w0 _ ?side1 ?side2 A7.out).mono ?_); (case side1 => exact zbb2 HI0.out); (case side2 => exact zbb1 HI0.out); rintro e w12 ⟨rfl, hi, hb, hk⟩; refine ⟨_, rfl, ?_⟩; replace HO_3 := Aside0.mk (Kd.R_mono (Kd.R_keep (IsS94.apart (show IsS94 w0 _ g s0_0 x1001_1 x1002_1 from zbb2 HI0.out) (zbb3 HO_3.out) (by decide)) hk (fun _ h => h.2)) (fun _ h => h.1)); replace HO_4 := Aside0.mk (Kd.R_mono (Kd.R_keep (IsS94.apart (show IsS94 w0 _ g s0_0 x1001_1 x1002_1 from zbb2 HI0.out) (zbb3 HO_4.out) (by decide)) hk (fun _ h => h.2)) (fun _ h => h.1)); replace HK := Aside0.mk (KeepBut.trans zbb0 hk (.inl rfl)); replace HB := Aside0.mk (hb); replace HI0 := Aside0.mk (hi); (try clear hb); (try clear hb2); (try clear hk); (try clear hi); have p231 : 0 ≤ (x5_1 : Int) := of_decide_eq_true zbb7; have q231 : x5_1 < (y225.length : Int) := of_decide_eq_true zbb7; obtain ⟨ad231, e231, hx231_0⟩ := Kd.at_string (Kd.R_reads' HO_4.out).2.2 x5_1 p231 q231; cases e231; replace p231 := eq_true p231; replace q231 := eq_true q231) | ((with_reducible refine gate_builtin (b := .append) (xs := #[.tmp 16, .tmp 21]) rfl ?_); at_builtin; refine Kd.R_append Kd.string w.heap.size rfl (.tmp 16) (.tmp 21) 29 9 (.string ⟨#[]⟩) 16 rfl Try.underlying29 info9 rfl (by decide) (by omega) u3 x3_1 (rdOf ByteArray.empty y225 x5_1) [.string (rdOf ByteArray.empty y225 x5_1)] (fun k_ => some k_ ≠ (.slice (some ad231) y225.length co11 : Value).ownBlock) (fun _ => False) rfl rfl ?aP (fun _ hk => hk.elim) ?aF ?aO (Below.refl _ _) ?aS ?aL ?_; (case aP => exact rfl); (case aF => exact (fun k_ hk => Kd.fresh' (Kd.R_lt (zbb3 HO_4.out)) k_ hk)); (case aO => exact (zbb3 HO_3.out)); (case aS => exact (keep_size (w := w) (g := g) (row := none) zbb0)); (case aL => have := LMc10.out; omega); intro v233 w13 ho hb hg hat; rw [← Ny232.out] at ho; replace HO_4 := Aside0.mk (Kd.R_after (ok := (fun _ => True)) (by (with_reducible repeat (first | apply Kd.R_alloc | apply Kd.R_drewN | apply Kd.R_drew)); exact Kd.R_mono HO_4.out (fun _ hk => ⟨trivial, hk⟩)) hg hat); replace HB := Aside0.mk (below_weaken (zbb1 HI0.out) HL.out hb); replace HI0 := Aside0.mk (IsS94.grown (zbb2 HI0.out) hg (IsS94.own_ne HI0.out HO_3.out (by decide))); replace HK := Aside0.mk (KeepBut.trans zbb0 (KeepBut.of_grown hg g) (Kd.R_base2 HO_3.out)); have HO234 := Aside0.mk (ho); clear HO_3; clear ho hb hg hat))
       go_roundg k1
       case measure => have := HK1.out; omega
       case rel => exact ⟨(y232), (wrap64 (x5_1 + 1)), (t229), (t230), zbb4, H', ⟨by have := HK1.out; omega⟩, ⟨zbb3 HO234.out⟩, ⟨zbb5 HO_4.out⟩, ⟨zbb2 HI0.out⟩, ⟨zbb0⟩, ⟨zbb1 HI0.out⟩⟩
      ·rw [if_neg c10] at H
       exact absurd H (by simp)
     ·rw [if_neg c9] at H
      exact absurd H (by simp)
    ·replace c8 := Bool.eq_false_iff.mpr c8
     subst c8
     have H1 : (spec_l18DrawNames.l0 k1 x3_1 y225 (wrap64 (x5_1 + 1)) s0_0 t229 t230) = some (r1, r2, r3) := by rw [if_neg (show ¬ (false = true) by decide)] at H; exact H
     clear H
     have H := H1
     clear H1
     have H' := Aside0.mk H
     clear H
     obtain ⟨Ao14, co14, eo14⟩ := Kd.R_slice HO_4.out
     subst eo14
     go_wp2_with (first | ((with_reducible refine gate_callee (f := 73) rfl ?_); refine goesL_ (some 15) rfl rfl Try.func73 (by kernel_rfl) rfl #[.pointer (some ⟨g, 0, none⟩), .int .i64 3] rfl zbb6 ?_; (with_reducible refine (spec_l1Once.calls g s0_0 x1001_1 x1002_1 3 false t229 t230 w0 _ ?side1 ?side2 A7.out).mono ?_); (case side1 => exact zbb2 HI0.out); (case side2 => exact zbb1 HI0.out); rintro e w15 ⟨rfl, hi, hb, hk⟩; refine ⟨_, rfl, ?_⟩; replace HO_3 := Aside0.mk (Kd.R_mono (Kd.R_keep (IsS94.apart (show IsS94 w0 _ g s0_0 x1001_1 x1002_1 from zbb2 HI0.out) (zbb3 HO_3.out) (by decide)) hk (fun _ h => h.2)) (fun _ h => h.1)); replace HO_4 := Aside0.mk (Kd.R_mono (Kd.R_keep (IsS94.apart (show IsS94 w0 _ g s0_0 x1001_1 x1002_1 from zbb2 HI0.out) (zbb3 HO_4.out) (by decide)) hk (fun _ h => h.2)) (fun _ h => h.1)); replace HK := Aside0.mk (KeepBut.trans zbb0 hk (.inl rfl)); replace HB := Aside0.mk (hb); replace HI0 := Aside0.mk (hi); (try clear hb); (try clear hb2); (try clear hk); (try clear hi)))
     go_roundg k1
     case measure => have := HK1.out; omega
     case rel => exact ⟨(x3_1), (wrap64 (x5_1 + 1)), (t229), (t230), zbb4, H', ⟨by have := HK1.out; omega⟩, ⟨zbb3 HO_3.out⟩, ⟨zbb3 HO_4.out⟩, ⟨zbb2 HI0.out⟩, ⟨zbb0⟩, ⟨zbb1 HI0.out⟩⟩
   ·rw [if_neg c6] at H
    have c6b0 : decide (x5_1 < (y225.length : Int)) = false := decide_eq_false c6
    clear c6
    simp only [Option.some.injEq, Prod.mk.injEq] at H
    obtain ⟨rfl, rfl, rfl⟩ := H
    obtain ⟨Ao16, co16, eo16⟩ := Kd.R_slice HO_4.out
    subst eo16
    go_wp2
    go_ret
    exact ⟨_, zbb8, by (with_reducible repeat (first | apply Kd.R_alloc | apply Kd.R_drewN | apply Kd.R_drew)); exact Kd.R_mono HO_3.out (fun _ hk => trivial), zbb2 HI0.out, zbb1 HI0.out, zbb0⟩

/-! ### spec_DrawFailing: function 39 -/
def spec_DrawFailing.f (k : Nat) (l0 : List Int) : Option ((List (S55)) × List ByteArray) := (spec_l1New.f k l0).bind fun bt235 => ((spec_l18Draw.f k bt235.1 bt235.2.1 bt235.2.2).bind fun bt239 => ((spec_l18DrawNames.f k bt235.1 bt239.2.1 bt239.2.2).bind fun bt244 => (some (bt239.1, bt244.1))))
theorem spec_DrawFailing.mono : ∀ a0 k, LeO (spec_DrawFailing.f k a0) (spec_DrawFailing.f (k + 1) a0) := by
 intro a0 k
 unfold spec_DrawFailing.f
 repeat' first
   | (with_reducible exact spec_l18Draw.mono _ _ _ _)
   | (with_reducible exact spec_l18DrawNames.mono _ _ _ _)
   | (with_reducible exact spec_l1New.mono _ _)
   | (with_reducible exact LeO.refl _)
   | (with_reducible exact LeO.none _)
   | (with_reducible refine LeO.ite ?_ ?_)
   | (with_reducible refine LeO.bind ?_ (fun _ => ?_))
   | exact spec_l18Draw.mono _ _ _ _
   | exact spec_l18DrawNames.mono _ _ _ _
   | exact spec_l1New.mono _ _
   | exact LeO.none _
   | refine LeO.ite ?_ ?_
   | refine LeO.bind ?_ (fun _ => ?_)
set_option maxHeartbeats 8000000 in
set_option maxRecDepth 100000 in
theorem spec_DrawFailing.calls (k : Nat) (A0 : Option Addr) (c0 : Nat) (l0 : List Int) (r1 : List (S55)) (r2 : List ByteArray) (w : World) (hr0 : Kd.C (Kd.int .u8) w A0 l0.length l0) (hc0 : l0.length ≤ c0) (h : spec_DrawFailing.f k l0 = some (r1, r2)) :
  Calls Try.prog 39 #[.slice A0 l0.length c0] w fun e w' => ∃ v0_ v1_ : Value, e = .returned (.tuple #[v0_, v1_]) ∧ Kd.S k55 55 w' w.heap.size (fun k_ => some k_ ≠ (v1_ : Value).ownBlock) v0_ r1 ∧ Kd.R Kd.string 9 w' w.heap.size (fun _ => True) v1_ r2 ∧ Below w.heap.size w w' := by
 have HR0 := Aside0.mk hr0
 have HC0 := Aside0.mk hc0
 clear hr0 hc0
 have HB := Aside0.mk (Below.refl w.heap.size w)
 have H : ((spec_l1New.f k l0).bind fun bt235 => ((spec_l18Draw.f k bt235.1 bt235.2.1 bt235.2.2).bind fun bt239 => ((spec_l18DrawNames.f k bt235.1 bt239.2.1 bt239.2.2).bind fun bt244 => (some (bt239.1, bt244.1))))) = some (r1, r2) := h
 clear h
 replace H := Option.bind_eq_some_iff.mp H
 obtain ⟨⟨t235, t236, t237⟩, A20, H⟩ := H
 replace H : ((spec_l18Draw.f k t235 t236 t237).bind fun bt239 => ((spec_l18DrawNames.f k t235 bt239.2.1 bt239.2.2).bind fun bt244 => (some (bt239.1, bt244.1)))) = some (r1, r2) := H
 have A2 := Aside0.mk A20
 clear A20
 replace H := Option.bind_eq_some_iff.mp H
 obtain ⟨⟨t239, t242, t243⟩, A30, H⟩ := H
 replace H : ((spec_l18DrawNames.f k t235 t242 t243).bind fun bt244 => (some (t239, bt244.1))) = some (r1, r2) := H
 have A3 := Aside0.mk A30
 clear A30
 replace H := Option.bind_eq_some_iff.mp H
 obtain ⟨⟨t244, t247, t248⟩, A40, H⟩ := H
 replace H : (some (t239, t244)) = some (r1, r2) := H
 have A4 := Aside0.mk A40
 clear A40
 simp only [Option.some.injEq, Prod.mk.injEq] at H
 obtain ⟨rfl, rfl⟩ := H
 go_enter Try.func39, Try.ntmps39
 go_wp2_with (first | ((with_reducible refine gate_callee (f := 70) rfl ?_); refine goesL_ (some 8) rfl rfl Try.func70 (by kernel_rfl) rfl #[.slice A0 l0.length c0] rfl zbb6 ?_; (with_reducible refine (spec_l1New.calls k _ _ l0 t235 t236 t237 w _ ?side1 ?side2 ?side3 A2.out).mono ?_); (case side1 => repeat (first | (with_reducible first | exact HB.out | apply below_alloc | apply pw_below_drewN | apply below_drew1) | exact HB.out)); (case side2 => exact HR0.out); (case side3 => exact HC0.out); rintro e w5 ⟨g238, rfl, hi, hb, hb2⟩; refine ⟨_, rfl, ?_⟩; replace HB := Aside0.mk (hb); have HI238 := Aside0.mk (hi); (try clear hb); (try clear hb2); (try clear hk); (try clear hi)) | ((with_reducible refine gate_callee (f := 71) rfl ?_); refine goesL_ (some 10) rfl rfl Try.func71 (by kernel_rfl) rfl #[.pointer (some ⟨g238, 0, none⟩)] rfl zbb6 ?_; (with_reducible refine (spec_l18Draw.calls k g238 t235 t236 t237 t239 t242 t243 w _ ?side1 ?side2 A3.out).mono ?_); (case side1 => exact zbb2 HI238.out); (case side2 => exact zbb1 HI238.out); rintro e w6 ⟨v240, rfl, ho0, hi, hb, hk⟩; refine ⟨_, rfl, ?_⟩; have HO241 := Aside0.mk (Kd.S_lower ho0 (below_size (zbb1 HI238.out))); replace HB := Aside0.mk (hb); replace HI238 := Aside0.mk (hi); (try clear hb); (try clear hb2); (try clear hk); (try clear hi); (try clear ho0)) | ((with_reducible refine gate_callee (f := 72) rfl ?_); refine goesL_ (some 12) rfl rfl Try.func72 (by kernel_rfl) rfl #[.pointer (some ⟨g238, 0, none⟩)] rfl zbb6 ?_; (with_reducible refine (spec_l18DrawNames.calls k g238 t235 t242 t243 t244 t247 t248 w _ ?side1 ?side2 A4.out).mono ?_); (case side1 => exact zbb2 HI238.out); (case side2 => exact zbb1 HI238.out); rintro e w7 ⟨v245, rfl, ho0, hi, hb, hk⟩; refine ⟨_, rfl, ?_⟩; replace HO241 := Aside0.mk (Kd.S_mono (Kd.S_told (Kd.S_oldK (IsS94.apartS (show IsS94 w _ g238 t235 t242 t243 from zbb2 HI238.out) (by (with_reducible repeat (first | apply Kd.S_alloc | apply Kd.S_drewN | apply Kd.S_drew)); exact HO241.out) (by decide)) hk) (Kd.R_base ho0)) (fun _ h_ => h_.1)); have HO246 := Aside0.mk (Kd.R_lower ho0 (below_size (zbb1 HI238.out))); replace HB := Aside0.mk (hb); replace HI238 := Aside0.mk (hi); (try clear hb); (try clear hb2); (try clear hk); (try clear hi); (try clear ho0)))
 go_ret2
 exact ⟨_, _, zbb8, by (with_reducible repeat (first | apply Kd.S_alloc | apply Kd.S_drewN | apply Kd.S_drew)); exact Kd.S_mono HO241.out (fun _ hk => hk.2), zbb3 HO246.out, zbb1 HI238.out⟩

/-! ### laws_has: function 40 -/
def laws_has.l0 : Nat → List ByteArray → ByteArray → Int → Option (Bool)
 | 0, _, _, _ => none
 | k + 1, x0, x1, x5 => if x5 < (x0.length : Int) then (if 0 ≤ x5 then (if (rdOf ByteArray.empty x0 x5).toList = x1.toList then (some true) else (laws_has.l0 k x0 x1 (wrap64 (x5 + 1)))) else (none)) else (some false)
def laws_has.f (k : Nat) (l0 : List ByteArray) (a1 : ByteArray) : Option (Bool) := laws_has.l0 k l0 a1 0
theorem laws_has.mono_l : ∀ k, (∀ y0 y1 y2, LeO (laws_has.l0 k y0 y1 y2) (laws_has.l0 (k + 1) y0 y1 y2))
 | 0 => fun _ _ _ r h => by simp [laws_has.l0] at h
 | k + 1 => by
  have ih0 := laws_has.mono_l k
  ·intro y0 y1 y2
   unfold laws_has.l0
   repeat' first
   | (with_reducible exact ih0 _ _ _)
   | (with_reducible exact LeO.refl _)
   | (with_reducible exact LeO.none _)
   | (with_reducible refine LeO.ite ?_ ?_)
   | (with_reducible refine LeO.bind ?_ (fun _ => ?_))
   | exact ih0 _ _ _
   | exact LeO.none _
   | refine LeO.ite ?_ ?_
   | refine LeO.bind ?_ (fun _ => ?_)
theorem laws_has.mono : ∀ a0 a1 k, LeO (laws_has.f k a0 a1) (laws_has.f (k + 1) a0 a1) := by
 intro a0 a1 k
 have ih0 := laws_has.mono_l k
 unfold laws_has.f
 repeat' first
   | (with_reducible exact ih0 _ _ _)
   | (with_reducible exact LeO.refl _)
   | (with_reducible exact LeO.none _)
   | (with_reducible refine LeO.ite ?_ ?_)
   | (with_reducible refine LeO.bind ?_ (fun _ => ?_))
   | exact ih0 _ _ _
   | exact LeO.none _
   | refine LeO.ite ?_ ?_
   | refine LeO.bind ?_ (fun _ => ?_)
set_option maxHeartbeats 8000000 in
set_option maxRecDepth 100000 in
theorem laws_has.calls (k : Nat) (A0 : Option Addr) (c0 : Nat) (l0 : List ByteArray) (a1 : ByteArray) (r : Bool) (w : World) (hr0 : Kd.C Kd.string w A0 l0.length l0) (hc0 : l0.length ≤ c0) (h : laws_has.f k l0 a1 = some r) :
  Calls Try.prog 40 #[.slice A0 l0.length c0, .string a1] w fun e w' => e = .returned (.bool r) ∧ Drawn0 w w' := by
 have HR0 := Aside0.mk hr0
 have HC0 := Aside0.mk hc0
 clear hr0 hc0
 have H : (laws_has.l0 k l0 a1 0) = some r := h
 clear h
 have H' := Aside0.mk H
 clear H
 go_enter Try.func40, Try.ntmps40
 go_wp2
 go_loopg [5] k (fun kq v5 w' => ∃ (x5_1 : Int), v5 = .int .i64 x5_1 ∧ Aside0 (laws_has.l0 kq l0 a1 x5_1 = some r) ∧ Aside0 (kq ≤ k) ∧ Drawn0 w w')
 case atStart => exact ⟨(0), zbb4, H', ⟨Nat.le_refl _⟩, zbb9⟩
 case round =>
  clear H'
  try clear p2
  obtain ⟨x5_1, rfl, HA, HK1, ⟨m1, rfl⟩⟩ := hrel
  cases gk with
  | zero => exact absurd HA.out (by simp [laws_has.l0])
  | succ k1 =>
   have H := HA.out
   clear HA
   simp only [laws_has.l0] at H
   by_cases c3 : x5_1 < (l0.length : Int)
   ·rw [if_pos c3] at H
    have c3b0 : decide (x5_1 < (l0.length : Int)) = true := decide_eq_true c3
    clear c3
    by_cases c4 : 0 ≤ x5_1
    ·rw [if_pos c4] at H
     have c4b0 : decide (0 ≤ x5_1) = true := decide_eq_true c4
     clear c4
     by_cases c5 : (rdOf ByteArray.empty l0 x5_1).toList = a1.toList
     ·rw [if_pos c5] at H
      have c5b0 : ((rdOf ByteArray.empty l0 x5_1).toList == a1.toList) = true := beq_iff_eq.mpr c5
      have c5b1 : ((rdOf ByteArray.empty l0 x5_1).toList != a1.toList) = false := bne_eq_false_iff_eq.mpr c5
      clear c5
      obtain rfl := Option.some.inj H
      have p249 : 0 ≤ (x5_1 : Int) := of_decide_eq_true zbb7
      have q249 : x5_1 < (l0.length : Int) := of_decide_eq_true zbb7
      obtain ⟨ad249, e249, hx249_0⟩ := Kd.at_string HR0.out x5_1 p249 q249
      cases e249
      replace p249 := eq_true p249
      replace q249 := eq_true q249
      go_wp2
      go_ret
      exact ⟨zbb4, zbb9⟩
     ·rw [if_neg c5] at H
      have c5b0 : ((rdOf ByteArray.empty l0 x5_1).toList == a1.toList) = false := beq_eq_false_iff_ne.mpr c5
      have c5b1 : ((rdOf ByteArray.empty l0 x5_1).toList != a1.toList) = true := bne_iff_ne.mpr c5
      have H' := Aside0.mk H
      clear H
      have p249 : 0 ≤ (x5_1 : Int) := of_decide_eq_true zbb7
      have q249 : x5_1 < (l0.length : Int) := of_decide_eq_true zbb7
      obtain ⟨ad249, e249, hx249_0⟩ := Kd.at_string HR0.out x5_1 p249 q249
      cases e249
      replace p249 := eq_true p249
      replace q249 := eq_true q249
      go_wp2
      go_roundg k1
      case measure => have := HK1.out; omega
      case rel => exact ⟨(wrap64 (x5_1 + 1)), zbb4, H', ⟨by have := HK1.out; omega⟩, zbb9⟩
    ·rw [if_neg c4] at H
     exact absurd H (by simp)
   ·rw [if_neg c3] at H
    have c3b0 : decide (x5_1 < (l0.length : Int)) = false := decide_eq_false c3
    clear c3
    obtain rfl := Option.some.inj H
    go_wp2
    go_ret
    exact ⟨zbb4, zbb9⟩

/-! ### laws_unit: function 41 -/
def laws_unit.l0 : Nat → List (S55) → ByteArray → Int → Option (Int)
 | 0, _, _, _ => none
 | k + 1, x0, x1, x5 => if x5 < (x0.length : Int) then (if 0 ≤ x5 then (if ((rd_T55 x0 x5).f0).toList = x1.toList then (some x5) else (laws_unit.l0 k x0 x1 (wrap64 (x5 + 1)))) else (none)) else (some (-1))
def laws_unit.f (k : Nat) (l0 : List (S55)) (a1 : ByteArray) : Option (Int) := laws_unit.l0 k l0 a1 0
theorem laws_unit.mono_l : ∀ k, (∀ y0 y1 y2, LeO (laws_unit.l0 k y0 y1 y2) (laws_unit.l0 (k + 1) y0 y1 y2))
 | 0 => fun _ _ _ r h => by simp [laws_unit.l0] at h
 | k + 1 => by
  have ih0 := laws_unit.mono_l k
  ·intro y0 y1 y2
   unfold laws_unit.l0
   repeat' first
   | (with_reducible exact ih0 _ _ _)
   | (with_reducible exact LeO.refl _)
   | (with_reducible exact LeO.none _)
   | (with_reducible refine LeO.ite ?_ ?_)
   | (with_reducible refine LeO.bind ?_ (fun _ => ?_))
   | exact ih0 _ _ _
   | exact LeO.none _
   | refine LeO.ite ?_ ?_
   | refine LeO.bind ?_ (fun _ => ?_)
theorem laws_unit.mono : ∀ a0 a1 k, LeO (laws_unit.f k a0 a1) (laws_unit.f (k + 1) a0 a1) := by
 intro a0 a1 k
 have ih0 := laws_unit.mono_l k
 unfold laws_unit.f
 repeat' first
   | (with_reducible exact ih0 _ _ _)
   | (with_reducible exact LeO.refl _)
   | (with_reducible exact LeO.none _)
   | (with_reducible refine LeO.ite ?_ ?_)
   | (with_reducible refine LeO.bind ?_ (fun _ => ?_))
   | exact ih0 _ _ _
   | exact LeO.none _
   | refine LeO.ite ?_ ?_
   | refine LeO.bind ?_ (fun _ => ?_)
set_option maxHeartbeats 8000000 in
set_option maxRecDepth 100000 in
theorem laws_unit.calls (k : Nat) (A0 : Option Addr) (c0 : Nat) (l0 : List (S55)) (a1 : ByteArray) (r : Int) (w : World) (hr0 : Kd.C k55 w A0 l0.length l0) (hc0 : l0.length ≤ c0) (h : laws_unit.f k l0 a1 = some r) :
  Calls Try.prog 41 #[.slice A0 l0.length c0, .string a1] w fun e w' => e = .returned (.int .i64 r) ∧ Drawn0 w w' := by
 have HR0 := Aside0.mk hr0
 have HC0 := Aside0.mk hc0
 clear hr0 hc0
 have H : (laws_unit.l0 k l0 a1 0) = some r := h
 clear h
 have H' := Aside0.mk H
 clear H
 go_enter Try.func41, Try.ntmps41
 go_wp2
 go_loopg [5] k (fun kq v5 w' => ∃ (x5_1 : Int), v5 = .int .i64 x5_1 ∧ Aside0 (laws_unit.l0 kq l0 a1 x5_1 = some r) ∧ Aside0 (kq ≤ k) ∧ Drawn0 w w')
 case atStart => exact ⟨(0), zbb4, H', ⟨Nat.le_refl _⟩, zbb9⟩
 case round =>
  clear H'
  try clear p2
  obtain ⟨x5_1, rfl, HA, HK1, ⟨m1, rfl⟩⟩ := hrel
  cases gk with
  | zero => exact absurd HA.out (by simp [laws_unit.l0])
  | succ k1 =>
   have H := HA.out
   clear HA
   simp only [laws_unit.l0] at H
   by_cases c3 : x5_1 < (l0.length : Int)
   ·rw [if_pos c3] at H
    have c3b0 : decide (x5_1 < (l0.length : Int)) = true := decide_eq_true c3
    clear c3
    by_cases c4 : 0 ≤ x5_1
    ·rw [if_pos c4] at H
     have c4b0 : decide (0 ≤ x5_1) = true := decide_eq_true c4
     clear c4
     by_cases c5 : ((rd_T55 l0 x5_1).f0).toList = a1.toList
     ·rw [if_pos c5] at H
      have c5b0 : (((rd_T55 l0 x5_1).f0).toList == a1.toList) = true := beq_iff_eq.mpr c5
      have c5b1 : (((rd_T55 l0 x5_1).f0).toList != a1.toList) = false := bne_eq_false_iff_eq.mpr c5
      clear c5
      obtain rfl := Option.some.inj H
      have p250 : 0 ≤ (x5_1 : Int) := of_decide_eq_true zbb7
      have q250 : x5_1 < (l0.length : Int) := of_decide_eq_true zbb7
      obtain ⟨ad250, A250_1, c250_1, A250_2, c250_2, e250, hx250_0, hx250_1, hx250_2, hx250_3, hx250_4, hl250_1, hi250_1, hl250_2, hi250_2⟩ := at_T55 HR0.out x5_1 p250 q250
      cases e250
      have HR250_1 := Aside0.mk hi250_1
      have HC250_1 := Aside0.mk hl250_1
      clear hi250_1 hl250_1
      have HR250_2 := Aside0.mk hi250_2
      have HC250_2 := Aside0.mk hl250_2
      clear hi250_2 hl250_2
      replace p250 := eq_true p250
      replace q250 := eq_true q250
      go_wp2
      go_ret
      exact ⟨zbb4, zbb9⟩
     ·rw [if_neg c5] at H
      have c5b0 : (((rd_T55 l0 x5_1).f0).toList == a1.toList) = false := beq_eq_false_iff_ne.mpr c5
      have c5b1 : (((rd_T55 l0 x5_1).f0).toList != a1.toList) = true := bne_iff_ne.mpr c5
      have H' := Aside0.mk H
      clear H
      have p250 : 0 ≤ (x5_1 : Int) := of_decide_eq_true zbb7
      have q250 : x5_1 < (l0.length : Int) := of_decide_eq_true zbb7
      obtain ⟨ad250, A250_1, c250_1, A250_2, c250_2, e250, hx250_0, hx250_1, hx250_2, hx250_3, hx250_4, hl250_1, hi250_1, hl250_2, hi250_2⟩ := at_T55 HR0.out x5_1 p250 q250
      cases e250
      have HR250_1 := Aside0.mk hi250_1
      have HC250_1 := Aside0.mk hl250_1
      clear hi250_1 hl250_1
      have HR250_2 := Aside0.mk hi250_2
      have HC250_2 := Aside0.mk hl250_2
      clear hi250_2 hl250_2
      replace p250 := eq_true p250
      replace q250 := eq_true q250
      go_wp2
      go_roundg k1
      case measure => have := HK1.out; omega
      case rel => exact ⟨(wrap64 (x5_1 + 1)), zbb4, H', ⟨by have := HK1.out; omega⟩, zbb9⟩
    ·rw [if_neg c4] at H
     exact absurd H (by simp)
   ·rw [if_neg c3] at H
    have c3b0 : decide (x5_1 < (l0.length : Int)) = false := decide_eq_false c3
    clear c3
    obtain rfl := Option.some.inj H
    go_wp2
    go_ret
    exact ⟨zbb4, zbb9⟩

end Go.Proofs.Ytnahkojlamficaa.PFnFailing
