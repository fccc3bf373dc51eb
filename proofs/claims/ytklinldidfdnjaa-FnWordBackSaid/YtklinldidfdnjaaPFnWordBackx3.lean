-- Laid by a program of this session: a turned copy of the kit's print, with contracts by hand beside.
import Derived.Test.YtklinldidfdnjaaPFnWordBackx0
import Derived.Test.YtklinldidfdnjaaPFnWordBackx2
namespace Go.Proofs.Ytklinldidfdnjaa.PFnWordBack
open Go.RowKit Go.Proofs.YtklinldidfdnjaaW.PrintWords Go.Proofs.YtklinldidfdnjaaW.PrintLast Go.Proofs.YtklinldidfdnjaaW.PrintMore
attribute [local go_sem] max2_int min2_int max_two min_two max_three min_three max_four min_four   -- for this text's walks alone
set_option linter.unusedVariables false
set_option linter.unusedSimpArgs false

/-! ### spec_l1U64: function 33 -/
def spec_l1U64.l0 : Nat → Int → Int → List Int → Int → Int → Option (Int × Int × Int)
  | 0, _, _, _, _, _ => none
  | k + 1, x3, x4, x1000, x1001, x1002 => if x4 < 8 then ((spec_l1Byte.f x1000 x1001 x1002).bind fun bt135 => (spec_l1U64.l0 k (IntKind.u64.wrap ((IntKind.u64.wrap (x3 * 256)) + (IntKind.u64.wrap (bt135.1)))) (wrap64 (x4 + 1)) x1000 bt135.2.1 bt135.2.2)) else ((spec_l1Once.f x1000 x1001 x1002 8).bind fun bt138 => (if bt138.1 = true then ((some (([0, 1, 18446744073709551615, 9223372036854775808] : List Int) : List Int)).bind fun y141 => ((spec_l1Below.f x1000 bt138.2.1 bt138.2.2 4).bind fun bt144 => (if 0 ≤ bt144.1 then (if bt144.1 < (y141.length : Int) then (some (rd y141 bt144.1, bt144.2.1, bt144.2.2)) else (none)) else (none)))) else (some (x3, bt138.2.1, bt138.2.2))))
def spec_l1U64.f (k : Nat) (s0_0 : List Int) (s0_1 : Int) (s0_2 : Int) : Option (Int × Int × Int) := spec_l1U64.l0 k 0 0 s0_0 s0_1 s0_2
theorem spec_l1U64.mono_l : ∀ k, (∀ y0 y1 y2 y3 y4, LeO (spec_l1U64.l0 k y0 y1 y2 y3 y4) (spec_l1U64.l0 (k + 1) y0 y1 y2 y3 y4))
  | 0 => fun _ _ _ _ _ r h => by simp [spec_l1U64.l0] at h
  | k + 1 => by
    have ih0 := spec_l1U64.mono_l k
    · intro y0 y1 y2 y3 y4
      unfold spec_l1U64.l0
      repeat' first
      | (with_reducible exact ih0 _ _ _ _ _)
      | (with_reducible exact LeO.refl _)
      | (with_reducible exact LeO.none _)
      | (with_reducible refine LeO.ite ?_ ?_)
      | (with_reducible refine LeO.bind ?_ (fun _ => ?_))
      | exact ih0 _ _ _ _ _
      | exact LeO.none _
      | refine LeO.ite ?_ ?_
      | refine LeO.bind ?_ (fun _ => ?_)
theorem spec_l1U64.mono : ∀ a0 a1 a2 k, LeO (spec_l1U64.f k a0 a1 a2) (spec_l1U64.f (k + 1) a0 a1 a2) := by
  intro a0 a1 a2 k
  have ih0 := spec_l1U64.mono_l k
  unfold spec_l1U64.f
  repeat' first
      | (with_reducible exact ih0 _ _ _ _ _)
      | (with_reducible exact LeO.refl _)
      | (with_reducible exact LeO.none _)
      | (with_reducible refine LeO.ite ?_ ?_)
      | (with_reducible refine LeO.bind ?_ (fun _ => ?_))
      | exact ih0 _ _ _ _ _
      | exact LeO.none _
      | refine LeO.ite ?_ ?_
      | refine LeO.bind ?_ (fun _ => ?_)
set_option maxHeartbeats 8000000 in
set_option maxRecDepth 100000 in
theorem spec_l1U64.calls (k : Nat) (g : Nat) (s0_0 : List Int) (s0_1 : Int) (s0_2 : Int) (r1 : Int) (r2 : Int) (r3 : Int) (w0 w : World) (hI : IsS81 w0 w g s0_0 s0_1 s0_2) (hB : Below w0.heap.size w0 w) (h : spec_l1U64.f k s0_0 s0_1 s0_2 = some (r1, r2, r3)) :
    Calls Try.prog 33 #[.pointer (some ⟨g, 0, none⟩)] w fun e w' => e = .returned (.int .u64 r1) ∧ IsS81 w0 w' g s0_0 r2 r3 ∧ Below w0.heap.size w0 w' ∧ KeepBut w w' g none := by
  have HI0 := Aside0.mk hI
  have HK := Aside0.mk (KeepBut.refl w g none)
  have HL := Aside0.mk hB.size
  clear hI
  have HW0 := Aside0.mk hB.size
  have HB := Aside0.mk hB
  clear hB
  have H : (spec_l1U64.l0 k 0 0 s0_0 s0_1 s0_2) = some (r1, r2, r3) := h
  clear h
  have H' := Aside0.mk H
  clear H
  go_enter Try.func33, Try.ntmps33
  go_wp2
  go_loopg [3, 4] k (fun kq v3 v4 w' => ∃ (x3_1 : Int) (x4_1 : Int) (x1001_1 : Int) (x1002_1 : Int), v3 = .int .u64 x3_1 ∧ v4 = .int .i64 x4_1 ∧ Aside0 (spec_l1U64.l0 kq x3_1 x4_1 s0_0 x1001_1 x1002_1 = some (r1, r2, r3)) ∧ Aside0 (kq ≤ k) ∧ Aside0 (IsS81 w0 w' g s0_0 x1001_1 x1002_1) ∧ Aside0 (KeepBut w w' g none) ∧ Aside0 (Below w0.heap.size w0 w'))
  case atStart => exact ⟨(0), (0), (s0_1), (s0_2), (by first | rfl | (simp; done) | (simp [*]; done)), (by first | rfl | (simp; done) | (simp [*]; done)), H', ⟨Nat.le_refl _⟩, ⟨by repeat (first | (with_reducible first | exact HI0.out | apply IsS81.alloc | apply IsS81.drewN | apply IsS81.drew | apply IsS81.set_1 | apply IsS81.set_2) | exact HI0.out)⟩, ⟨by repeat (first | (with_reducible first | exact HK.out | apply KeepBut.set_ | apply keep_drewN | apply keep_drew | apply keep_alloc) | exact HK.out)⟩, ⟨by repeat (first | (with_reducible first | exact HB.out | apply below_alloc | apply pw_below_drewN | apply below_drew1 | refine below_set ?_ (IsS81.ge HI0.out)) | exact HB.out)⟩⟩
  case round =>
    clear H'
    obtain ⟨x3_1, x4_1, x1001_1, x1002_1, rfl, rfl, HA, HK1, HI0, HK, HB⟩ := hrel
    cases gk with
    | zero => exact absurd HA.out (by simp [spec_l1U64.l0])
    | succ k1 =>
      have H := HA.out
      clear HA
      simp only [spec_l1U64.l0] at H
      by_cases c2 : x4_1 < 8
      · rw [if_pos c2] at H
        have c2b0 : decide (x4_1 < 8) = true := decide_eq_true c2
        clear c2
        replace H := Option.bind_eq_some_iff.mp H
        obtain ⟨⟨t135, t136, t137⟩, A30, H⟩ := H
        replace H : (spec_l1U64.l0 k1 (IntKind.u64.wrap ((IntKind.u64.wrap (x3_1 * 256)) + (IntKind.u64.wrap (t135)))) (wrap64 (x4_1 + 1)) s0_0 t136 t137) = some (r1, r2, r3) := H
        have A3 := Aside0.mk A30
        clear A30
        have H' := Aside0.mk H
        clear H
        go_wp2_with (first | ((with_reducible refine gate_callee (f := 63) rfl ?_); refine goesL_ (some 12) rfl rfl Try.func63 (by kernel_rfl) rfl #[.pointer (some ⟨g, 0, none⟩)] rfl (by (try simp only [List.map_toArray, List.map_cons, List.map_nil]); first | done | rfl | (simp only [List.length_drop, List.length_take]; rfl)) ?_; (with_reducible refine (spec_l1Byte.calls g s0_0 x1001_1 x1002_1 t135 t136 t137 w0 _ ?side1 ?side2 A3.out).mono ?_); (case side1 => repeat (first | (with_reducible first | exact HI0.out | apply IsS81.alloc | apply IsS81.drewN | apply IsS81.drew | apply IsS81.set_1 | apply IsS81.set_2) | exact HI0.out)); (case side2 => repeat (first | (with_reducible first | exact HB.out | apply below_alloc | apply pw_below_drewN | apply below_drew1 | refine below_set ?_ (IsS81.ge HI0.out)) | exact HB.out)); rintro e w4 ⟨rfl, hi, hb, hk⟩; refine ⟨_, rfl, ?_⟩; have n0_ := Aside0.mk (KeepBut.trans (by repeat (first | (with_reducible first | exact HK.out | apply KeepBut.set_ | apply keep_drewN | apply keep_drew | apply keep_alloc) | exact HK.out)) hk (.inl rfl)); have n1_ := Aside0.mk (hb); have n2_ := Aside0.mk (hi); clear HK; clear HB; clear HI0; have HK := n0_; have HB := n1_; have HI0 := n2_; clear n0_ n1_ n2_; (try clear hb); (try clear hb2); (try clear hk); (try clear hi)))
        go_roundg k1
        case measure => have := HK1.out; omega
        case rel => exact ⟨(IntKind.u64.wrap ((IntKind.u64.wrap (x3_1 * 256)) + (IntKind.u64.wrap (t135)))), (wrap64 (x4_1 + 1)), (t136), (t137), (by first | rfl | (simp; done) | (simp [*]; done)), (by first | rfl | (simp; done) | (simp [*]; done)), H', ⟨by have := HK1.out; omega⟩, ⟨by repeat (first | (with_reducible first | exact HI0.out | apply IsS81.alloc | apply IsS81.drewN | apply IsS81.drew | apply IsS81.set_1 | apply IsS81.set_2) | exact HI0.out)⟩, ⟨by repeat (first | (with_reducible first | exact HK.out | apply KeepBut.set_ | apply keep_drewN | apply keep_drew | apply keep_alloc) | exact HK.out)⟩, ⟨by repeat (first | (with_reducible first | exact HB.out | apply below_alloc | apply pw_below_drewN | apply below_drew1 | refine below_set ?_ (IsS81.ge HI0.out)) | exact HB.out)⟩⟩
      · rw [if_neg c2] at H
        have c2b0 : decide (x4_1 < 8) = false := decide_eq_false c2
        clear c2
        replace H := Option.bind_eq_some_iff.mp H
        obtain ⟨⟨t138, t139, t140⟩, A50, H⟩ := H
        replace H : (if t138 = true then ((some (([0, 1, 18446744073709551615, 9223372036854775808] : List Int) : List Int)).bind fun y141 => ((spec_l1Below.f s0_0 t139 t140 4).bind fun bt144 => (if 0 ≤ bt144.1 then (if bt144.1 < (y141.length : Int) then (some (rd y141 bt144.1, bt144.2.1, bt144.2.2)) else (none)) else (none)))) else (some (x3_1, t139, t140))) = some (r1, r2, r3) := H
        have A5 := Aside0.mk A50
        clear A50
        by_cases c6 : t138 = true
        · subst c6
          have H1 : ((some (([0, 1, 18446744073709551615, 9223372036854775808] : List Int) : List Int)).bind fun y141 => ((spec_l1Below.f s0_0 t139 t140 4).bind fun bt144 => (if 0 ≤ bt144.1 then (if bt144.1 < (y141.length : Int) then (some (rd y141 bt144.1, bt144.2.1, bt144.2.2)) else (none)) else (none)))) = some (r1, r2, r3) := by rw [if_pos rfl] at H; exact H
          clear H
          have H := H1
          clear H1
          obtain ⟨y141, hy141⟩ : ∃ y_ : List Int, y_ = (([0, 1, 18446744073709551615, 9223372036854775808] : List Int)) := ⟨_, rfl⟩
          replace H : ((spec_l1Below.f s0_0 t139 t140 4).bind fun bt144 => (if 0 ≤ bt144.1 then (if bt144.1 < (y141.length : Int) then (some (rd y141 bt144.1, bt144.2.1, bt144.2.2)) else (none)) else (none))) = some (r1, r2, r3) := by first | (rw [hy141]; with_reducible exact H) | (have H2_ := (Option.bind_some _ _).symm.trans H; rw [hy141]; with_reducible exact H2_) | (have H2_ := (Option.bind_some _ _).symm.trans H; with_reducible exact H2_) | with_reducible exact H | (rw [hy141]; exact H) | exact H
          have Ny141 := Aside0.mk hy141
          clear hy141
          replace H := Option.bind_eq_some_iff.mp H
          obtain ⟨⟨t144, t145, t146⟩, A70, H⟩ := H
          replace H : (if 0 ≤ t144 then (if t144 < (y141.length : Int) then (some (rd y141 t144, t145, t146)) else (none)) else (none)) = some (r1, r2, r3) := H
          have A7 := Aside0.mk A70
          clear A70
          by_cases c8 : 0 ≤ t144
          · rw [if_pos c8] at H
            have c8b0 : decide (0 ≤ t144) = true := decide_eq_true c8
            clear c8
            by_cases c9 : t144 < (y141.length : Int)
            · rw [if_pos c9] at H
              have c9b0 : decide (t144 < (y141.length : Int)) = true := decide_eq_true c9
              clear c9
              simp only [Option.some.injEq, Prod.mk.injEq] at H
              obtain ⟨rfl, rfl, rfl⟩ := H
              go_wp2_with (first | ((with_reducible refine gate_callee (f := 36) rfl ?_); refine goesL_ (some 16) rfl rfl Try.func36 (by kernel_rfl) rfl #[.pointer (some ⟨g, 0, none⟩), .int .i64 8] rfl (by (try simp only [List.map_toArray, List.map_cons, List.map_nil]); first | done | rfl | (simp only [List.length_drop, List.length_take]; rfl)) ?_; (with_reducible refine (spec_l1Once.calls g s0_0 x1001_1 x1002_1 8 true t139 t140 w0 _ ?side1 ?side2 A5.out).mono ?_); (case side1 => repeat (first | (with_reducible first | exact HI0.out | apply IsS81.alloc | apply IsS81.drewN | apply IsS81.drew | apply IsS81.set_1 | apply IsS81.set_2) | exact HI0.out)); (case side2 => repeat (first | (with_reducible first | exact HB.out | apply below_alloc | apply pw_below_drewN | apply below_drew1 | refine below_set ?_ (IsS81.ge HI0.out)) | exact HB.out)); rintro e w10 ⟨rfl, hi, hb, hk⟩; refine ⟨_, rfl, ?_⟩; have n0_ := Aside0.mk (KeepBut.trans (by repeat (first | (with_reducible first | exact HK.out | apply KeepBut.set_ | apply keep_drewN | apply keep_drew | apply keep_alloc) | exact HK.out)) hk (.inl rfl)); have n1_ := Aside0.mk (hb); have n2_ := Aside0.mk (hi); clear HK; clear HB; clear HI0; have HK := n0_; have HB := n1_; have HI0 := n2_; clear n0_ n1_ n2_; (try clear hb); (try clear hb2); (try clear hk); (try clear hi)) | ((with_reducible refine gate_dst (N := 17) rfl ?_); refine Kd.R_lit (Kd.int .u64) _ 29 ?hg (N := 17) ?hd (xs := ([0, 1, 18446744073709551615, 9223372036854775808] : List Int)) (inner := [.int .u64 0, .int .u64 1, .int .u64 18446744073709551615, .int .u64 9223372036854775808]) (ok := fun _ => True) (okp := fun _ => True) ?hr ?hp (fun _ hk => hk) trivial (Below.refl _ _) (Nat.le_refl _) (by simp) ?_; (case hd => rfl); (case hg => rfl); (case hr => first | (go_simp; done) | (go_simp; rfl)); (case hp => exact (Reps.one (show Kd.M (Kd.int .u64) _ _ _ 0 [.int .u64 0] from rfl) (Reps.one (show Kd.M (Kd.int .u64) _ _ _ 1 [.int .u64 1] from rfl) (Reps.one (show Kd.M (Kd.int .u64) _ _ _ 18446744073709551615 [.int .u64 18446744073709551615] from rfl) (Reps.one (show Kd.M (Kd.int .u64) _ _ _ 9223372036854775808 [.int .u64 9223372036854775808] from rfl) (Reps.none _ _)))))); intro v142 w11 ho12 hb hg_ hnew_; clear hg_ hnew_; (first | rw [← Ny141.out] at ho12 | (simp only [Int.reduceToNat] at ho12; rw [← Ny141.out] at ho12)); have n0_ := Aside0.mk (Kd.R_lower ho12 (keep_size (w := w) (g := g) (row := none) (by repeat (first | (with_reducible first | exact HK.out | apply KeepBut.set_ | apply keep_drewN | apply keep_drew | apply keep_alloc) | exact HK.out)))); have n1_ := Aside0.mk (IsS81.below (by repeat (first | (with_reducible first | exact HI0.out | apply IsS81.alloc | apply IsS81.drewN | apply IsS81.drew | apply IsS81.set_1 | apply IsS81.set_2) | exact HI0.out)) hb); have n2_ := Aside0.mk (KeepBut.trans (by repeat (first | (with_reducible first | exact HK.out | apply KeepBut.set_ | apply keep_drewN | apply keep_drew | apply keep_alloc) | exact HK.out)) (KeepBut.of_below hb g none) (.inl rfl)); have n3_ := Aside0.mk (below_step (by repeat (first | (with_reducible first | exact HB.out | apply below_alloc | apply pw_below_drewN | apply below_drew1 | refine below_set ?_ (IsS81.ge HI0.out)) | exact HB.out)) hb); clear HI0; clear HK; clear HB; have HO143 := n0_; have HI0 := n1_; have HK := n2_; have HB := n3_; clear n0_ n1_ n2_ n3_; clear hb ho12) | ((with_reducible refine gate_callee (f := 37) rfl ?_); refine goesL_ (some 19) rfl rfl Try.func37 (by kernel_rfl) rfl #[.pointer (some ⟨g, 0, none⟩), .int .i64 4] rfl (by (try simp only [List.map_toArray, List.map_cons, List.map_nil]); first | done | rfl | (simp only [List.length_drop, List.length_take]; rfl)) ?_; (with_reducible refine (spec_l1Below.calls g s0_0 t139 t140 4 t144 t145 t146 w0 _ ?side1 ?side2 A7.out).mono ?_); (case side1 => repeat (first | (with_reducible first | exact HI0.out | apply IsS81.alloc | apply IsS81.drewN | apply IsS81.drew | apply IsS81.set_1 | apply IsS81.set_2) | exact HI0.out)); (case side2 => repeat (first | (with_reducible first | exact HB.out | apply below_alloc | apply pw_below_drewN | apply below_drew1 | refine below_set ?_ (IsS81.ge HI0.out)) | exact HB.out)); rintro e w13 ⟨rfl, hi, hb, hk⟩; refine ⟨_, rfl, ?_⟩; have n0_ := Aside0.mk (Kd.R_mono (Kd.R_keep (IsS81.apart (show IsS81 w0 _ g s0_0 t139 t140 from by repeat (first | (with_reducible first | exact HI0.out | apply IsS81.alloc | apply IsS81.drewN | apply IsS81.drew | apply IsS81.set_1 | apply IsS81.set_2) | exact HI0.out)) (by (with_reducible repeat (first | apply Kd.R_alloc | apply Kd.R_drewN | apply Kd.R_drew)); exact HO143.out) (by decide)) hk (fun _ h => h.2)) (fun _ h => h.1)); have n1_ := Aside0.mk (KeepBut.trans (by repeat (first | (with_reducible first | exact HK.out | apply KeepBut.set_ | apply keep_drewN | apply keep_drew | apply keep_alloc) | exact HK.out)) hk (.inl rfl)); have n2_ := Aside0.mk (hb); have n3_ := Aside0.mk (hi); clear HO143; clear HK; clear HB; clear HI0; have HO143 := n0_; have HK := n1_; have HB := n2_; have HI0 := n3_; clear n0_ n1_ n2_ n3_; (try clear hb); (try clear hb2); (try clear hk); (try clear hi); obtain ⟨Ao14, co14, eo14⟩ := Kd.R_slice HO143.out; subst eo14; have p147 : 0 ≤ (t144 : Int) := of_decide_eq_true (by first | (with_reducible assumption) | assumption); have q147 : t144 < (y141.length : Int) := of_decide_eq_true (by first | (with_reducible assumption) | assumption); obtain ⟨ad147, e147, hx147_0⟩ := Kd.at_int (Kd.R_reads' HO143.out).2.2 t144 p147 q147; cases e147; replace p147 := eq_true p147; replace q147 := eq_true q147))
              go_ret
              exact ⟨by first | rfl | (simp [errW_none, errW_some] <;> rfl) | (simp [*, errW_none, errW_some] <;> rfl), by repeat (first | (with_reducible first | exact HI0.out | apply IsS81.alloc | apply IsS81.drewN | apply IsS81.drew | apply IsS81.set_1 | apply IsS81.set_2) | exact HI0.out), by repeat (first | (with_reducible first | exact HB.out | apply below_alloc | apply pw_below_drewN | apply below_drew1 | refine below_set ?_ (IsS81.ge HI0.out)) | exact HB.out), by repeat (first | (with_reducible first | exact HK.out | apply KeepBut.set_ | apply keep_drewN | apply keep_drew | apply keep_alloc) | exact HK.out)⟩
            · rw [if_neg c9] at H
              exact absurd H (by simp)
          · rw [if_neg c8] at H
            exact absurd H (by simp)
        · replace c6 := Bool.eq_false_iff.mpr c6
          subst c6
          have H1 : (some (x3_1, t139, t140)) = some (r1, r2, r3) := by rw [if_neg (show ¬ (false = true) by decide)] at H; exact H
          clear H
          have H := H1
          clear H1
          simp only [Option.some.injEq, Prod.mk.injEq] at H
          obtain ⟨rfl, rfl, rfl⟩ := H
          go_wp2_with (first | ((with_reducible refine gate_callee (f := 36) rfl ?_); refine goesL_ (some 16) rfl rfl Try.func36 (by kernel_rfl) rfl #[.pointer (some ⟨g, 0, none⟩), .int .i64 8] rfl (by (try simp only [List.map_toArray, List.map_cons, List.map_nil]); first | done | rfl | (simp only [List.length_drop, List.length_take]; rfl)) ?_; (with_reducible refine (spec_l1Once.calls g s0_0 x1001_1 x1002_1 8 false t139 t140 w0 _ ?side1 ?side2 A5.out).mono ?_); (case side1 => repeat (first | (with_reducible first | exact HI0.out | apply IsS81.alloc | apply IsS81.drewN | apply IsS81.drew | apply IsS81.set_1 | apply IsS81.set_2) | exact HI0.out)); (case side2 => repeat (first | (with_reducible first | exact HB.out | apply below_alloc | apply pw_below_drewN | apply below_drew1 | refine below_set ?_ (IsS81.ge HI0.out)) | exact HB.out)); rintro e w15 ⟨rfl, hi, hb, hk⟩; refine ⟨_, rfl, ?_⟩; have n0_ := Aside0.mk (KeepBut.trans (by repeat (first | (with_reducible first | exact HK.out | apply KeepBut.set_ | apply keep_drewN | apply keep_drew | apply keep_alloc) | exact HK.out)) hk (.inl rfl)); have n1_ := Aside0.mk (hb); have n2_ := Aside0.mk (hi); clear HK; clear HB; clear HI0; have HK := n0_; have HB := n1_; have HI0 := n2_; clear n0_ n1_ n2_; (try clear hb); (try clear hb2); (try clear hk); (try clear hi)))
          go_ret
          exact ⟨by first | rfl | (simp [errW_none, errW_some] <;> rfl) | (simp [*, errW_none, errW_some] <;> rfl), by repeat (first | (with_reducible first | exact HI0.out | apply IsS81.alloc | apply IsS81.drewN | apply IsS81.drew | apply IsS81.set_1 | apply IsS81.set_2) | exact HI0.out), by repeat (first | (with_reducible first | exact HB.out | apply below_alloc | apply pw_below_drewN | apply below_drew1 | refine below_set ?_ (IsS81.ge HI0.out)) | exact HB.out), by repeat (first | (with_reducible first | exact HK.out | apply KeepBut.set_ | apply keep_drewN | apply keep_drew | apply keep_alloc) | exact HK.out)⟩

/-! ### spec_DrawWord32: function 15 -/
def spec_DrawWord32.f (k : Nat) (l0 : List Int) : Option (Int) := (spec_l1New.f k l0).bind fun bt148 => ((spec_l1U64.f k bt148.1 bt148.2.1 bt148.2.2).bind fun bt152 => (some bt152.1))
theorem spec_DrawWord32.mono : ∀ a0 k, LeO (spec_DrawWord32.f k a0) (spec_DrawWord32.f (k + 1) a0) := by
  intro a0 k
  unfold spec_DrawWord32.f
  repeat' first
      | (with_reducible exact spec_l1New.mono _ _)
      | (with_reducible exact spec_l1U64.mono _ _ _ _)
      | (with_reducible exact LeO.refl _)
      | (with_reducible exact LeO.none _)
      | (with_reducible refine LeO.ite ?_ ?_)
      | (with_reducible refine LeO.bind ?_ (fun _ => ?_))
      | exact spec_l1New.mono _ _
      | exact spec_l1U64.mono _ _ _ _
      | exact LeO.none _
      | refine LeO.ite ?_ ?_
      | refine LeO.bind ?_ (fun _ => ?_)
set_option maxHeartbeats 8000000 in
set_option maxRecDepth 100000 in
theorem spec_DrawWord32.calls (k : Nat) (A0 : Option Addr) (c0 : Nat) (l0 : List Int) (r : Int) (w : World) (hr0 : Kd.C (Kd.int .u8) w A0 l0.length l0) (hc0 : l0.length ≤ c0) (h : spec_DrawWord32.f k l0 = some r) :
    Calls Try.prog 15 #[.slice A0 l0.length c0] w fun e w' => e = .returned (.int .u64 r) ∧ Below w.heap.size w w' := by
  have HR0 := Aside0.mk hr0
  have HC0 := Aside0.mk hc0
  clear hr0 hc0
  have HB := Aside0.mk (Below.refl w.heap.size w)
  have H : ((spec_l1New.f k l0).bind fun bt148 => ((spec_l1U64.f k bt148.1 bt148.2.1 bt148.2.2).bind fun bt152 => (some bt152.1))) = some r := h
  clear h
  replace H := Option.bind_eq_some_iff.mp H
  obtain ⟨⟨t148, t149, t150⟩, A20, H⟩ := H
  replace H : ((spec_l1U64.f k t148 t149 t150).bind fun bt152 => (some bt152.1)) = some r := H
  have A2 := Aside0.mk A20
  clear A20
  replace H := Option.bind_eq_some_iff.mp H
  obtain ⟨⟨t152, t153, t154⟩, A30, H⟩ := H
  replace H : (some t152) = some r := H
  have A3 := Aside0.mk A30
  clear A30
  obtain rfl := Option.some.inj H
  go_enter Try.func15, Try.ntmps15
  go_wp2_with (first | ((with_reducible refine gate_callee (f := 32) rfl ?_); refine goesL_ (some 5) rfl rfl Try.func32 (by kernel_rfl) rfl #[.slice A0 l0.length c0] rfl (by (try simp only [List.map_toArray, List.map_cons, List.map_nil]); first | done | rfl | (simp only [List.length_drop, List.length_take]; rfl)) ?_; (with_reducible refine (spec_l1New.calls k _ _ l0 t148 t149 t150 w _ ?side1 ?side2 ?side3 A2.out).mono ?_); (case side1 => repeat (first | (with_reducible first | exact HB.out | apply below_alloc | apply pw_below_drewN | apply below_drew1) | exact HB.out)); (case side2 => exact HR0.out); (case side3 => exact HC0.out); rintro e w4 ⟨g151, rfl, hi, hb, hb2⟩; refine ⟨_, rfl, ?_⟩; have n0_ := Aside0.mk (hb); have n1_ := Aside0.mk (hi); clear HB; have HB := n0_; have HI151 := n1_; clear n0_ n1_; (try clear hb); (try clear hb2); (try clear hk); (try clear hi)) | ((with_reducible refine gate_callee (f := 33) rfl ?_); refine goesL_ (some 7) rfl rfl Try.func33 (by kernel_rfl) rfl #[.pointer (some ⟨g151, 0, none⟩)] rfl (by (try simp only [List.map_toArray, List.map_cons, List.map_nil]); first | done | rfl | (simp only [List.length_drop, List.length_take]; rfl)) ?_; (with_reducible refine (spec_l1U64.calls k g151 t148 t149 t150 t152 t153 t154 w _ ?side1 ?side2 A3.out).mono ?_); (case side1 => repeat (first | (with_reducible first | exact HI151.out | apply IsS81.alloc | apply IsS81.drewN | apply IsS81.drew | apply IsS81.set_1 | apply IsS81.set_2) | exact HI151.out)); (case side2 => repeat (first | (with_reducible first | exact HB.out | apply below_alloc | apply pw_below_drewN | apply below_drew1 | refine below_set ?_ (IsS81.ge HI151.out)) | exact HB.out)); rintro e w5 ⟨rfl, hi, hb, hk⟩; refine ⟨_, rfl, ?_⟩; have n0_ := Aside0.mk (hb); have n1_ := Aside0.mk (hi); clear HB; clear HI151; have HB := n0_; have HI151 := n1_; clear n0_ n1_; (try clear hb); (try clear hb2); (try clear hk); (try clear hi)))
  go_ret
  exact ⟨by first | rfl | (simp [errW_none, errW_some] <;> rfl) | (simp [*, errW_none, errW_some] <;> rfl), by repeat (first | (with_reducible first | exact HB.out | apply below_alloc | apply pw_below_drewN | apply below_drew1 | refine below_set ?_ (IsS81.ge HI151.out)) | exact HB.out)⟩

/-! ### spec_Word32: function 35 -/
def spec_Word32.l0 : Nat → Int → List Int → Int → Option (ByteArray)
  | 0, _, _, _ => none
  | k + 1, x0, x3, x4 => if x4 ≥ 0 then (if 0 ≤ (IntKind.u64.wrap (wrap64 (5 * x4))) then (if 0 ≤ (Go.bits .and .u64 (shr .u64 x0 (IntKind.u64.wrap (wrap64 (5 * x4)))) 31) then (if (Go.bits .and .u64 (shr .u64 x0 (IntKind.u64.wrap (wrap64 (5 * x4)))) 31) < 32 then (if x3.length < 140737488355328 then (spec_Word32.l0 k x0 (x3 ++ [bt (⟨#[48, 49, 50, 51, 52, 53, 54, 55, 56, 57, 97, 98, 99, 100, 102, 103, 104, 105, 106, 107, 108, 109, 110, 112, 113, 114, 115, 118, 119, 120, 121, 122]⟩ : ByteArray) (Go.bits .and .u64 (shr .u64 x0 (IntKind.u64.wrap (wrap64 (5 * x4)))) 31)]) (wrap64 (x4 - 1))) else (none)) else (none)) else (none)) else (none)) else (some (strOfNums x3))
def spec_Word32.f (k : Nat) (a0 : Int) : Option (ByteArray) := spec_Word32.l0 k a0 (([] : List Int)) 12
theorem spec_Word32.mono_l : ∀ k, (∀ y0 y1 y2, LeO (spec_Word32.l0 k y0 y1 y2) (spec_Word32.l0 (k + 1) y0 y1 y2))
  | 0 => fun _ _ _ r h => by simp [spec_Word32.l0] at h
  | k + 1 => by
    have ih0 := spec_Word32.mono_l k
    · intro y0 y1 y2
      unfold spec_Word32.l0
      repeat' first
      | (with_reducible exact ih0 _ _ _)
      | (with_reducible exact LeO.refl _)
      | (with_reducible exact LeO.none _)
      | (with_reducible refine LeO.ite ?_ ?_)
      | (with_reducible refine LeO.bind ?_ (fun _ => ?_))
      | exact ih0 _ _ _
      | exact LeO.none _
      | refine LeO.ite ?_ ?_
      | refine LeO.bind ?_ (fun _ => ?_)
theorem spec_Word32.mono : ∀ a0 k, LeO (spec_Word32.f k a0) (spec_Word32.f (k + 1) a0) := by
  intro a0 k
  have ih0 := spec_Word32.mono_l k
  unfold spec_Word32.f
  repeat' first
      | (with_reducible exact ih0 _ _ _)
      | (with_reducible exact LeO.refl _)
      | (with_reducible exact LeO.none _)
      | (with_reducible refine LeO.ite ?_ ?_)
      | (with_reducible refine LeO.bind ?_ (fun _ => ?_))
      | exact ih0 _ _ _
      | exact LeO.none _
      | refine LeO.ite ?_ ?_
      | refine LeO.bind ?_ (fun _ => ?_)
set_option maxHeartbeats 8000000 in
set_option maxRecDepth 100000 in
theorem spec_Word32.calls (k : Nat) (a0 : Int) (r : ByteArray) (w : World) (h : spec_Word32.f k a0 = some r) :
    Calls Try.prog 35 #[.int .u64 a0] w fun e w' => e = .returned (.string r) ∧ Below w.heap.size w w' := by
  have HB := Aside0.mk (Below.refl w.heap.size w)
  have H : (spec_Word32.l0 k a0 (([] : List Int)) 12) = some r := h
  clear h
  obtain ⟨y155, hy155⟩ : ∃ y_ : List Int, y_ = (([] : List Int)) := ⟨_, rfl⟩
  replace H : (spec_Word32.l0 k a0 y155 12) = some r := by first | (rw [hy155]; with_reducible exact H) | (have H2_ := (Option.bind_some _ _).symm.trans H; rw [hy155]; with_reducible exact H2_) | (have H2_ := (Option.bind_some _ _).symm.trans H; with_reducible exact H2_) | with_reducible exact H | (rw [hy155]; exact H) | exact H
  have Ny155 := Aside0.mk hy155
  clear hy155
  have H' := Aside0.mk H
  clear H
  go_enter Try.func35, Try.ntmps35
  go_wp2_with (first | ((with_reducible refine gate_dst (N := 5) rfl ?_); refine Kd.R_lit (Kd.int .u8) _ 5 ?hg (N := 5) ?hd (xs := ([] : List Int)) (inner := []) (ok := fun _ => True) (okp := fun _ => True) ?hr ?hp (fun _ hk => hk) trivial (Below.refl _ _) (Nat.le_refl _) (by simp) ?_; (case hd => rfl); (case hg => rfl); (case hr => first | (go_simp; done) | (go_simp; rfl)); (case hp => exact (Reps.none _ _)); intro v156 w2 ho3 hb hg_ hnew_; clear hg_ hnew_; (first | rw [← Ny155.out] at ho3 | (simp only [Int.reduceToNat] at ho3; rw [← Ny155.out] at ho3)); have n0_ := Aside0.mk (Kd.R_lower ho3 (below_size (by repeat (first | (with_reducible first | exact HB.out | apply below_alloc | apply pw_below_drewN | apply below_drew1) | exact HB.out)))); have n1_ := Aside0.mk (below_step (by repeat (first | (with_reducible first | exact HB.out | apply below_alloc | apply pw_below_drewN | apply below_drew1) | exact HB.out)) hb); clear HB; have HO157 := n0_; have HB := n1_; clear n0_ n1_; clear hb ho3))
  go_loopg [3, 4] k (fun kq v3 v4 w' => ∃ (x3_1 : List Int) (x4_1 : Int), v4 = .int .i64 x4_1 ∧ Aside0 (spec_Word32.l0 kq a0 x3_1 x4_1 = some r) ∧ Aside0 (kq ≤ k) ∧ Aside0 (Kd.R (Kd.int .u8) 5 w' w.heap.size (fun _ => True) v3 x3_1) ∧ Aside0 (Below w.heap.size w w'))
  case atStart => exact ⟨(y155), (12), (by first | rfl | (simp; done) | (simp [*]; done)), H', ⟨Nat.le_refl _⟩, ⟨by (with_reducible repeat (first | apply Kd.R_alloc | apply Kd.R_drewN | apply Kd.R_drew)); exact HO157.out⟩, ⟨by repeat (first | (with_reducible first | exact HB.out | apply below_alloc | apply pw_below_drewN | apply below_drew1) | exact HB.out)⟩⟩
  case round =>
    clear H'
    try clear p2
    try clear c3
    obtain ⟨x3_1, x4_1, rfl, HA, HK1, HO_3, HB⟩ := hrel
    cases gk with
    | zero => exact absurd HA.out (by simp [spec_Word32.l0])
    | succ k1 =>
      have H := HA.out
      clear HA
      simp only [spec_Word32.l0] at H
      by_cases c4 : x4_1 ≥ 0
      · rw [if_pos c4] at H
        have c4b0 : decide (0 ≤ x4_1) = true := decide_eq_true c4
        clear c4
        obtain ⟨ji5, hji5⟩ : ∃ j_ : Int, (IntKind.u64.wrap (wrap64 (5 * x4_1))) = j_ := ⟨_, rfl⟩
        replace H : (if 0 ≤ (ji5) then (if 0 ≤ (Go.bits .and .u64 (shr .u64 a0 (ji5)) 31) then (if (Go.bits .and .u64 (shr .u64 a0 (ji5)) 31) < 32 then (if x3_1.length < 140737488355328 then (spec_Word32.l0 k1 a0 (x3_1 ++ [bt (⟨#[48, 49, 50, 51, 52, 53, 54, 55, 56, 57, 97, 98, 99, 100, 102, 103, 104, 105, 106, 107, 108, 109, 110, 112, 113, 114, 115, 118, 119, 120, 121, 122]⟩ : ByteArray) (Go.bits .and .u64 (shr .u64 a0 (ji5)) 31)]) (wrap64 (x4_1 - 1))) else (none)) else (none)) else (none)) else (none)) = some r := by first | (rw [hji5] at H; exact H) | (simp only [hji5] at H ⊢; exact H)
        by_cases c6 : 0 ≤ (ji5)
        · rw [if_pos c6] at H
          have c6b0 := eq_true c6
          have c6b1 : decide (0 ≤ (ji5)) = true := decide_eq_true c6
          clear c6
          obtain ⟨ji7, hji7⟩ : ∃ j_ : Int, (shr .u64 a0 (ji5)) = j_ := ⟨_, rfl⟩
          replace H : (if 0 ≤ (Go.bits .and .u64 (ji7) 31) then (if (Go.bits .and .u64 (ji7) 31) < 32 then (if x3_1.length < 140737488355328 then (spec_Word32.l0 k1 a0 (x3_1 ++ [bt (⟨#[48, 49, 50, 51, 52, 53, 54, 55, 56, 57, 97, 98, 99, 100, 102, 103, 104, 105, 106, 107, 108, 109, 110, 112, 113, 114, 115, 118, 119, 120, 121, 122]⟩ : ByteArray) (Go.bits .and .u64 (ji7) 31)]) (wrap64 (x4_1 - 1))) else (none)) else (none)) else (none)) = some r := by first | (rw [hji7] at H; exact H) | (simp only [hji7] at H ⊢; exact H)
          have hji7_ : (a0 / 2 ^ min (ji5).toNat 64) = ji7 := hji7
          have hji7z : (ji5) ≤ 64 → (a0 / 2 ^ (ji5).toNat) = ji7 := shr_small hji7
          by_cases c8 : 0 ≤ (Go.bits .and .u64 (ji7) 31)
          · rw [if_pos c8] at H
            have c8b0 : decide (0 ≤ (Go.bits .and .u64 (ji7) 31)) = true := decide_eq_true c8
            clear c8
            by_cases c9 : (Go.bits .and .u64 (ji7) 31) < 32
            · rw [if_pos c9] at H
              have c9b0 : decide ((Go.bits .and .u64 (ji7) 31) < 32) = true := decide_eq_true c9
              clear c9
              by_cases c11 : x3_1.length < 140737488355328
              · rw [if_pos c11] at H
                have LMc11 := Aside0.mk c11
                clear c11
                obtain ⟨y158, hy158⟩ : ∃ y_ : List Int, y_ = (x3_1 ++ [bt (⟨#[48, 49, 50, 51, 52, 53, 54, 55, 56, 57, 97, 98, 99, 100, 102, 103, 104, 105, 106, 107, 108, 109, 110, 112, 113, 114, 115, 118, 119, 120, 121, 122]⟩ : ByteArray) (Go.bits .and .u64 (ji7) 31)]) := ⟨_, rfl⟩
                replace H : (spec_Word32.l0 k1 a0 y158 (wrap64 (x4_1 - 1))) = some r := by first | (rw [hy158]; with_reducible exact H) | (have H2_ := (Option.bind_some _ _).symm.trans H; rw [hy158]; with_reducible exact H2_) | (have H2_ := (Option.bind_some _ _).symm.trans H; with_reducible exact H2_) | with_reducible exact H | (rw [hy158]; exact H) | exact H
                have Ny158 := Aside0.mk hy158
                clear hy158
                have H' := Aside0.mk H
                clear H
                have p10 : 0 ≤ ((Go.bits .and .u64 (ji7) 31) : Int) := of_decide_eq_true (by first | (with_reducible assumption) | assumption)
                have q10 : (Go.bits .and .u64 (ji7) 31) < (32 : Int) := of_decide_eq_true (by first | (with_reducible assumption) | assumption)
                have hx10 := bt_at (⟨#[48, 49, 50, 51, 52, 53, 54, 55, 56, 57, 97, 98, 99, 100, 102, 103, 104, 105, 106, 107, 108, 109, 110, 112, 113, 114, 115, 118, 119, 120, 121, 122]⟩ : ByteArray) (Go.bits .and .u64 (ji7) 31)
                replace p10 := eq_true p10
                replace q10 := eq_true q10
                go_wp2_with (first | ((with_reducible refine gate_builtin (b := .append) (xs := #[.tmp 10, .tmp 18]) rfl ?_); at_builtin; refine Kd.R_append (Kd.int .u8) (w0 := w) w.heap.size rfl (.tmp 10) (.tmp 18) 23 5 (.int .u8 0) 1 rfl Try.underlying23 info5 rfl (by decide) (by omega) u3 x3_1 (bt (⟨#[48, 49, 50, 51, 52, 53, 54, 55, 56, 57, 97, 98, 99, 100, 102, 103, 104, 105, 106, 107, 108, 109, 110, 112, 113, 114, 115, 118, 119, 120, 121, 122]⟩ : ByteArray) (Go.bits .and .u64 (ji7) 31)) [.int .u8 (bt (⟨#[48, 49, 50, 51, 52, 53, 54, 55, 56, 57, 97, 98, 99, 100, 102, 103, 104, 105, 106, 107, 108, 109, 110, 112, 113, 114, 115, 118, 119, 120, 121, 122]⟩ : ByteArray) (Go.bits .and .u64 (ji7) 31))] (fun _ => True) (fun _ => False) rfl rfl ?aP (fun _ hk => hk.elim) ?aF ?aO ?aB ?aS ?aL ?_; (case aP => exact rfl); (case aB => exact (by repeat (first | (with_reducible first | exact HB.out | apply below_alloc | apply pw_below_drewN | apply below_drew1) | exact HB.out))); (case aF => exact (fun _ _ => trivial)); (case aO => exact (by (with_reducible repeat (first | apply Kd.R_alloc | apply Kd.R_drewN | apply Kd.R_drew)); exact HO_3.out)); (case aS => exact (below_size (by repeat (first | (with_reducible first | exact HB.out | apply below_alloc | apply pw_below_drewN | apply below_drew1) | exact HB.out)))); (case aL => have := LMc11.out; omega); intro v159 w12 ho hb hg hat; rw [← Ny158.out] at ho; have n0_ := Aside0.mk (hb); have n1_ := Aside0.mk (ho); clear HB; clear HO_3; have HB := n0_; have HO160 := n1_; clear n0_ n1_; clear ho hb hg hat))
                go_roundg k1
                case measure => have := HK1.out; omega
                case rel => exact ⟨(y158), (wrap64 (x4_1 - 1)), (by first | rfl | (simp; done) | (simp [*]; done)), H', ⟨by have := HK1.out; omega⟩, ⟨by (with_reducible repeat (first | apply Kd.R_alloc | apply Kd.R_drewN | apply Kd.R_drew)); exact HO160.out⟩, ⟨by repeat (first | (with_reducible first | exact HB.out | apply below_alloc | apply pw_below_drewN | apply below_drew1) | exact HB.out)⟩⟩
              · rw [if_neg c11] at H
                exact absurd H (by simp)
            · rw [if_neg c9] at H
              exact absurd H (by simp)
          · rw [if_neg c8] at H
            exact absurd H (by simp)
        · rw [if_neg c6] at H
          exact absurd H (by simp)
      · rw [if_neg c4] at H
        have c4b0 : decide (0 ≤ x4_1) = false := decide_eq_false c4
        clear c4
        obtain rfl := Option.some.inj H
        have hcv13 := own_string (P := Try.prog) Try.underlying23 Try.underlying5 Try.underlying9 (Kd.own_of_R HO_3.out)
        go_wp2
        go_ret
        exact ⟨by first | rfl | (simp [errW_none, errW_some] <;> rfl) | (simp [*, errW_none, errW_some] <;> rfl), by repeat (first | (with_reducible first | exact HB.out | apply below_alloc | apply pw_below_drewN | apply below_drew1) | exact HB.out)⟩

/-! ### spec_DrawReadWord32: function 18 -/
def drw3 (xs : List Int) (b : List Int) (i h : Int) : Option ByteArray := (spec_l1Once.f b i h 10).bind fun o => some (strOfNums (if o.1 = true then xs.set 0 122 else xs))
def drw2 (xs : List Int) (b : List Int) (i h : Int) : Option ByteArray := (spec_l1Once.f b i h 10).bind fun o => drw3 (if o.1 = true then xs ++ [48] else xs) b o.2.1 o.2.2
def spec_DrawReadWord32.f (k : Nat) (l0 : List Int) : Option ByteArray := (spec_l1New.f k l0).bind fun b => (spec_l1U64.f k b.1 b.2.1 b.2.2).bind fun x => (spec_Word32.f k x.1).bind fun s => if s.size = 13 then (spec_l1Once.f b.1 x.2.1 x.2.2 4).bind fun o => (if o.1 = true then (spec_l1Below.f b.1 o.2.1 o.2.2 128).bind fun y => (spec_l1Below.f b.1 y.2.1 y.2.2 13).bind fun z => if 0 ≤ z.1 ∧ z.1 < 13 then drw2 ((bytesL s).set z.1.toNat (y.1 % 256)) b.1 z.2.1 z.2.2 else none else drw2 (bytesL s) b.1 o.2.1 o.2.2) else none
theorem C_one (W : World) (x : Int) : Kd.C (Kd.int .u8) (W.alloc (.cells #[.int .u8 x] 5)) (some ⟨W.heap.size, 0, none⟩) [x].length [x] := by
  have hr : ReadsInt (W.alloc (.cells #[.int .u8 x] 5)) .u8 (some ⟨W.heap.size, 0, none⟩) [x].length [x] := ⟨rfl, by show 1 ≤ 9223372036854775807; decide, fun _ => ⟨_, rfl, fun j hj => by
    obtain rfl : j = 0 := by simp at hj; omega
    have := heap_alloc_new W (.cells #[.int .u8 x] 5)
    show World.cell? _ ⟨W.heap.size, 0, none⟩ = _
    unfold World.cell?
    rw [this]
    rfl⟩⟩
  exact Kd.C_of_reads (d := (0 : Int)) (h1 := fun _ => rfl) hr
set_option maxHeartbeats 8000000 in
set_option maxRecDepth 100000 in
theorem spec_DrawReadWord32.calls (k : Nat) (A0 : Option Addr) (c0 : Nat) (l0 : List Int) (r : ByteArray) (w : World) (hr0 : Kd.C (Kd.int .u8) w A0 l0.length l0) (hc0 : l0.length ≤ c0) (h : spec_DrawReadWord32.f k l0 = some r) :
    Calls Try.prog 18 #[.slice A0 l0.length c0] w fun e w' => e = .returned (.string r) ∧ Below w.heap.size w w' := by
  have HR0 := Aside0.mk hr0
  have HC0 := Aside0.mk hc0
  clear hr0 hc0
  have HB := Aside0.mk (Below.refl w.heap.size w)
  unfold spec_DrawReadWord32.f at h
  replace h := Option.bind_eq_some_iff.mp h
  obtain ⟨⟨b, i0, h0⟩, EE, h⟩ := h
  have E1 := Aside0.mk EE
  clear EE
  try dsimp only at h
  replace h := Option.bind_eq_some_iff.mp h
  obtain ⟨⟨x, i1, h1⟩, EE, h⟩ := h
  have E2 := Aside0.mk EE
  clear EE
  try dsimp only at h
  replace h := Option.bind_eq_some_iff.mp h
  obtain ⟨s, EE, h⟩ := h
  have E3 := Aside0.mk EE
  clear EE
  try dsimp only at h
  by_cases hs : s.size = 13
  · rw [if_pos hs] at h
    replace h := Option.bind_eq_some_iff.mp h
    obtain ⟨⟨o1, i2, h2⟩, EE, h⟩ := h
    have E4 := Aside0.mk EE
    clear EE
    try dsimp only at h
    cases o1 with
    | true =>
      rw [if_pos rfl] at h
      replace h := Option.bind_eq_some_iff.mp h
      obtain ⟨⟨y, i3, h3⟩, EE, h⟩ := h
      have E5 := Aside0.mk EE
      clear EE
      try dsimp only at h
      replace h := Option.bind_eq_some_iff.mp h
      obtain ⟨⟨z, i4, h4⟩, EE, h⟩ := h
      have E6 := Aside0.mk EE
      clear EE
      try dsimp only at h
      by_cases hy : 0 ≤ z ∧ z < 13
      · rw [if_pos hy] at h
        have HY := Aside0.mk hy
        clear hy
        unfold drw2 at h
        replace h := Option.bind_eq_some_iff.mp h
        obtain ⟨⟨o2, i5, h5⟩, EE, h⟩ := h
        have E7 := Aside0.mk EE
        clear EE
        try dsimp only at h
        unfold drw3 at h
        replace h := Option.bind_eq_some_iff.mp h
        obtain ⟨⟨o3, i6, h6⟩, EE, h⟩ := h
        have E8 := Aside0.mk EE
        clear EE
        try dsimp only at h
        cases o2 with
        | true =>
          cases o3 with
          | true =>
            simp only [if_true, if_false, reduceCtorEq, ite_true, ite_false, Bool.false_eq_true] at h
            obtain rfl := Option.some.inj h
            clear h
            go_enter Try.func18, Try.ntmps18
            go_wp2_with (first
              | (go_at_call 32; go_loud ((with_reducible refine (spec_l1New.calls k _ _ l0 b i0 h0 w _ (by repeat (first | (with_reducible first | exact HB.out | apply below_alloc | apply pw_below_drewN | apply below_drew1) | exact HB.out)) HR0.out HC0.out E1.out).mono ?_); rintro e w1 ⟨g, rfl, hi, hb, hb2⟩; have n1_ := Aside0.mk hb; have HI := Aside0.mk hi; clear HB hi hb hb2 E1; have HB := n1_; clear n1_))
              | (go_at_call 33; go_loud ((with_reducible refine (spec_l1U64.calls k g b i0 h0 x i1 h1 w _ HI.out HB.out E2.out).mono ?_); rintro e w2 ⟨rfl, hi, hb, hk⟩; have n0_ := Aside0.mk hi; have n1_ := Aside0.mk hb; clear HI HB hi hb; have HI := n0_; have HB := n1_; clear n0_ n1_ hk; clear E2))
              | (go_at_call 35; go_loud ((with_reducible refine (spec_Word32.calls k x s _ E3.out).mono ?_); rintro e w3 ⟨rfl, hb⟩; have n0_ := Aside0.mk (HI.out.below hb); have n1_ := Aside0.mk (below_step HB.out hb); clear HI HB hb E3; have HI := n0_; have HB := n1_; clear n0_ n1_))
              | go_in)
            refine conv_step (G := fun z => Oper.upon _ _ _ _ _ (Result.andThen z _)) Try.underlying9 Try.underlying23 Try.underlying5 (by omega) fun g1 c1 w4 hl1 _ hb4 hR1 => ?_
            have HG := Aside0.mk HI.out.lt
            have HS3 := Aside0.mk (show w3.heap.size ≤ w4.heap.size from hb4.size)
            have n0_ := Aside0.mk (HI.out.below hb4)
            have n1_ := Aside0.mk (below_step HB.out hb4)
            have HG3 := Aside0.mk (show w.heap.size ≤ w3.heap.size from HB.out.size)
            clear HI HB
            have HI := n0_
            have HB := n1_
            have RB := Aside0.mk hR1
            clear n0_ n1_ hb4 hR1
            have HN := Aside0.mk (show (bytesL s).length = 13 by rw [bytesL_length]; exact hs)
            go_wp2_with (first
              | (go_at_call 36; go_loud ((with_reducible refine (spec_l1Once.calls g b i1 h1 4 true i2 h2 w _ HI.out HB.out E4.out).mono ?_); rintro e w5 ⟨rfl, hi, hb, hk⟩; have n0_ := Aside0.mk hi; have n1_ := Aside0.mk hb; have n2_ := Aside0.mk (RB.out.keep hk HG.out); clear HI HB hi hb RB; have HI := n0_; have HB := n1_; have RB := n2_; clear n0_ n1_ hk n2_; clear E4))
              | (go_at_call 37; go_loud ((with_reducible refine (spec_l1Below.calls g b i2 h2 128 y i3 h3 w _ HI.out HB.out E5.out).mono ?_); rintro e w6 ⟨rfl, hi, hb, hk⟩; have n0_ := Aside0.mk hi; have n1_ := Aside0.mk hb; have n2_ := Aside0.mk (RB.out.keep hk HG.out); clear HI HB hi hb RB; have HI := n0_; have HB := n1_; have RB := n2_; clear n0_ n1_ hk n2_; clear E5))
              | (go_at_call 37; go_loud ((with_reducible refine (spec_l1Below.calls g b i3 h3 13 z i4 h4 w _ HI.out HB.out E6.out).mono ?_); rintro e w7 ⟨rfl, hi, hb, hk⟩; have n0_ := Aside0.mk hi; have n1_ := Aside0.mk hb; have n2_ := Aside0.mk (RB.out.keep hk HG.out); clear HI HB hi hb RB; have HI := n0_; have HB := n1_; have RB := n2_; clear n0_ n1_ hk n2_; clear E6; obtain ⟨gz, cz, ez, hz1, hz2, hz3, hz4⟩ := RB.out.form; injection ez with ea_ eb_ ec_; injection ea_ with ea_; injection ea_ with ea_ _ _; subst ea_; subst ec_; clear eb_; have HZ := Aside0.mk hz4; have HGZ := Aside0.mk (show g ≠ g1 from fun e_ => by have := HG.out; omega); have HGW := Aside0.mk (show w.heap.size ≤ g1 from Nat.le_trans HG3.out hz1); have hx1 := (hz3 z.toNat (by have := HN.out; (try have := HY.out); (try simp only [List.length_set, List.length_append, List.length_singleton]); omega)).1; have hf1 := (hz3 z.toNat (by have := HN.out; (try have := HY.out); (try simp only [List.length_set, List.length_append, List.length_singleton]); omega)).2; clear hz1 hz2 hz3 hz4; have hz0 := eq_true HY.out.1; have hz1 : (z < ((bytesL s).length : Int)) = True := eq_true (by have := HY.out.2; have := HN.out; (try have := HY.out); omega)))
              | ((with_reducible refine gate_store (t := 5) (p := 21) rfl ?_); go_loud (refine store_event (t := 5) (p := 21) (v := ?vo_1) (w1 := (w7.setCell ⟨g1, z.toNat, none⟩ (.int .u8 (y % 256)))) ?hg ?ho ?hn ?hr ?_; (case ho => rfl); (case hg => rfl); (case hn => rfl); (case hr => first | (go_simp; done) | (go_simp; rfl)); intro w8 hw; have n0_ := Aside0.mk (show IsS81 w w8 g b _ _ from by rw [hw]; exact HI.out.far HGZ.out _); have n1_ := Aside0.mk (show Below w.heap.size w w8 from by rw [hw]; exact below_set HB.out HGW.out); have n2_ := Aside0.mk (show RowB 5 w8 w3.heap.size _ ((bytesL s).set z.toNat (y % 256)) from by rw [hw]; exact HZ.out z.toNat (y % 256) (by have := HN.out; (try have := HY.out); (try simp only [List.length_set, List.length_append, List.length_singleton]); omega)); clear HI HB RB hw hx1 hf1 HZ HGZ HGW; have HI := n0_; have HB := n1_; have RB := n2_; clear n0_ n1_ n2_; clear hz0 hz1))
              | (go_at_call 36; go_loud ((with_reducible refine (spec_l1Once.calls g b i4 h4 10 true i5 h5 w _ HI.out HB.out E7.out).mono ?_); rintro e w9 ⟨rfl, hi, hb, hk⟩; have n0_ := Aside0.mk hi; have n1_ := Aside0.mk hb; have n2_ := Aside0.mk (RB.out.keep hk HG.out); clear HI HB hi hb RB; have HI := n0_; have HB := n1_; have RB := n2_; clear n0_ n1_ hk n2_; clear E7))
              | (at_builtin; go_loud (refine RowB.append_wp w3.heap.size rfl (.tmp 24) (.tmp 25) 23 5 rfl Try.underlying23 (by kernel_rfl) (RB.out.below (below_alloc (Below.refl _ _) _)) (C_one _ 48) rfl rfl (by (try simp only [List.length_set, List.length_append, List.length_singleton]); have := HN.out; (try have := HY.out); omega) (Nat.le_trans (Nat.le_of_lt (by obtain ⟨gz, cz, ez, hz1, hz2, _⟩ := RB.out.form; omega)) (below_alloc (Below.refl _ _) _).size) ?_; intro v1 wB hR2 hb2; have n0_ := Aside0.mk (show IsS81 w wB g b _ _ from by obtain ⟨Az, cz, a_, b_, c_⟩ := (HI.out.alloc _); exact ⟨Az, cz, (hb2.block _ HG.out).trans a_, b_, c_⟩); have n1_ := Aside0.mk (show Below w.heap.size w wB from (below_alloc HB.out _).trans (hb2.mono HG3.out)); have RB2 := Aside0.mk hR2; clear HI HB RB hR2 hb2; have HI := n0_; have HB := n1_; have RB := RB2; clear n0_ n1_ RB2; obtain ⟨g2, c2, ev, hq1, hq2, hq3, hq4⟩ := RB.out.form; subst ev; clear hq1 hq2 hq3 hq4))
              | (go_at_call 36; go_loud ((with_reducible refine (spec_l1Once.calls g b i5 h5 10 true i6 h6 w _ HI.out HB.out E8.out).mono ?_); rintro e wA ⟨rfl, hi, hb, hk⟩; have n0_ := Aside0.mk hi; have n1_ := Aside0.mk hb; have n2_ := Aside0.mk (RB.out.keep hk HG.out); clear HI HB hi hb RB; have HI := n0_; have HB := n1_; have RB := n2_; clear n0_ n1_ hk n2_; clear E8; obtain ⟨gz, cz, ez, hz1, hz2, hz3, hz4⟩ := RB.out.form; injection ez with ea_ eb_ ec_; injection ea_ with ea_; injection ea_ with ea_ _ _; subst ea_; subst ec_; clear eb_; have HZ := Aside0.mk hz4; have HGZ := Aside0.mk (show g ≠ g2 from fun e_ => by have := HG.out; omega); have HGW := Aside0.mk (show w.heap.size ≤ g2 from Nat.le_trans HG3.out hz1); have hx2 := (hz3 0 (by have := HN.out; (try have := HY.out); (try simp only [List.length_set, List.length_append, List.length_singleton]); omega)).1; have hf2 := (hz3 0 (by have := HN.out; (try have := HY.out); (try simp only [List.length_set, List.length_append, List.length_singleton]); omega)).2; clear hz1 hz2 hz3 hz4))
              | ((with_reducible refine gate_store (t := 5) (p := 30) rfl ?_); go_loud (refine store_event (t := 5) (p := 30) (v := ?vo_2) (w1 := (wA.setCell ⟨g2, 0, none⟩ (.int .u8 122))) ?hg ?ho ?hn ?hr ?_; (case ho => rfl); (case hg => rfl); (case hn => rfl); (case hr => first | (go_simp; done) | (go_simp; rfl)); intro wC hw; have n0_ := Aside0.mk (show IsS81 w wC g b _ _ from by rw [hw]; exact HI.out.far HGZ.out _); have n1_ := Aside0.mk (show Below w.heap.size w wC from by rw [hw]; exact below_set HB.out HGW.out); have n2_ := Aside0.mk (show RowB 5 wC w3.heap.size _ ((((bytesL s).set z.toNat (y % 256)) ++ [48]).set 0 122) from by rw [hw]; exact HZ.out 0 122 (by have := HN.out; (try have := HY.out); (try simp only [List.length_set, List.length_append, List.length_singleton]); omega)); clear HI HB RB hw hx2 hf2 HZ HGZ HGW; have HI := n0_; have HB := n1_; have RB := n2_; clear n0_ n1_ n2_; obtain ⟨Az, cz, ez, hlz, hCz⟩ := RB.out.reads (by (try simp only [List.length_set, List.length_append, List.length_singleton]); have := HN.out; (try have := HY.out); omega); injection ez with ea_ eb_ ec_; subst ea_; subst ec_; have HS := Kd.C_string (P := Try.prog) (src := 23) (dst := 9) (e := 5) (c := c2) Try.underlying23 Try.underlying5 Try.underlying9 hCz; (try simp only [List.length_set, List.length_append, List.length_cons, List.length_nil, Nat.zero_add] at HS); clear hCz eb_ hlz))
              | (rw [HS])
              | go_in)
            go_ret
            exact ⟨rfl, HB.out⟩
          | false =>
            simp only [if_true, if_false, reduceCtorEq, ite_true, ite_false, Bool.false_eq_true] at h
            obtain rfl := Option.some.inj h
            clear h
            go_enter Try.func18, Try.ntmps18
            go_wp2_with (first
              | (go_at_call 32; go_loud ((with_reducible refine (spec_l1New.calls k _ _ l0 b i0 h0 w _ (by repeat (first | (with_reducible first | exact HB.out | apply below_alloc | apply pw_below_drewN | apply below_drew1) | exact HB.out)) HR0.out HC0.out E1.out).mono ?_); rintro e w1 ⟨g, rfl, hi, hb, hb2⟩; have n1_ := Aside0.mk hb; have HI := Aside0.mk hi; clear HB hi hb hb2 E1; have HB := n1_; clear n1_))
              | (go_at_call 33; go_loud ((with_reducible refine (spec_l1U64.calls k g b i0 h0 x i1 h1 w _ HI.out HB.out E2.out).mono ?_); rintro e w2 ⟨rfl, hi, hb, hk⟩; have n0_ := Aside0.mk hi; have n1_ := Aside0.mk hb; clear HI HB hi hb; have HI := n0_; have HB := n1_; clear n0_ n1_ hk; clear E2))
              | (go_at_call 35; go_loud ((with_reducible refine (spec_Word32.calls k x s _ E3.out).mono ?_); rintro e w3 ⟨rfl, hb⟩; have n0_ := Aside0.mk (HI.out.below hb); have n1_ := Aside0.mk (below_step HB.out hb); clear HI HB hb E3; have HI := n0_; have HB := n1_; clear n0_ n1_))
              | go_in)
            refine conv_step (G := fun z => Oper.upon _ _ _ _ _ (Result.andThen z _)) Try.underlying9 Try.underlying23 Try.underlying5 (by omega) fun g1 c1 w4 hl1 _ hb4 hR1 => ?_
            have HG := Aside0.mk HI.out.lt
            have HS3 := Aside0.mk (show w3.heap.size ≤ w4.heap.size from hb4.size)
            have n0_ := Aside0.mk (HI.out.below hb4)
            have n1_ := Aside0.mk (below_step HB.out hb4)
            have HG3 := Aside0.mk (show w.heap.size ≤ w3.heap.size from HB.out.size)
            clear HI HB
            have HI := n0_
            have HB := n1_
            have RB := Aside0.mk hR1
            clear n0_ n1_ hb4 hR1
            have HN := Aside0.mk (show (bytesL s).length = 13 by rw [bytesL_length]; exact hs)
            go_wp2_with (first
              | (go_at_call 36; go_loud ((with_reducible refine (spec_l1Once.calls g b i1 h1 4 true i2 h2 w _ HI.out HB.out E4.out).mono ?_); rintro e w5 ⟨rfl, hi, hb, hk⟩; have n0_ := Aside0.mk hi; have n1_ := Aside0.mk hb; have n2_ := Aside0.mk (RB.out.keep hk HG.out); clear HI HB hi hb RB; have HI := n0_; have HB := n1_; have RB := n2_; clear n0_ n1_ hk n2_; clear E4))
              | (go_at_call 37; go_loud ((with_reducible refine (spec_l1Below.calls g b i2 h2 128 y i3 h3 w _ HI.out HB.out E5.out).mono ?_); rintro e w6 ⟨rfl, hi, hb, hk⟩; have n0_ := Aside0.mk hi; have n1_ := Aside0.mk hb; have n2_ := Aside0.mk (RB.out.keep hk HG.out); clear HI HB hi hb RB; have HI := n0_; have HB := n1_; have RB := n2_; clear n0_ n1_ hk n2_; clear E5))
              | (go_at_call 37; go_loud ((with_reducible refine (spec_l1Below.calls g b i3 h3 13 z i4 h4 w _ HI.out HB.out E6.out).mono ?_); rintro e w7 ⟨rfl, hi, hb, hk⟩; have n0_ := Aside0.mk hi; have n1_ := Aside0.mk hb; have n2_ := Aside0.mk (RB.out.keep hk HG.out); clear HI HB hi hb RB; have HI := n0_; have HB := n1_; have RB := n2_; clear n0_ n1_ hk n2_; clear E6; obtain ⟨gz, cz, ez, hz1, hz2, hz3, hz4⟩ := RB.out.form; injection ez with ea_ eb_ ec_; injection ea_ with ea_; injection ea_ with ea_ _ _; subst ea_; subst ec_; clear eb_; have HZ := Aside0.mk hz4; have HGZ := Aside0.mk (show g ≠ g1 from fun e_ => by have := HG.out; omega); have HGW := Aside0.mk (show w.heap.size ≤ g1 from Nat.le_trans HG3.out hz1); have hx1 := (hz3 z.toNat (by have := HN.out; (try have := HY.out); (try simp only [List.length_set, List.length_append, List.length_singleton]); omega)).1; have hf1 := (hz3 z.toNat (by have := HN.out; (try have := HY.out); (try simp only [List.length_set, List.length_append, List.length_singleton]); omega)).2; clear hz1 hz2 hz3 hz4; have hz0 := eq_true HY.out.1; have hz1 : (z < ((bytesL s).length : Int)) = True := eq_true (by have := HY.out.2; have := HN.out; (try have := HY.out); omega)))
              | ((with_reducible refine gate_store (t := 5) (p := 21) rfl ?_); go_loud (refine store_event (t := 5) (p := 21) (v := ?vo_1) (w1 := (w7.setCell ⟨g1, z.toNat, none⟩ (.int .u8 (y % 256)))) ?hg ?ho ?hn ?hr ?_; (case ho => rfl); (case hg => rfl); (case hn => rfl); (case hr => first | (go_simp; done) | (go_simp; rfl)); intro w8 hw; have n0_ := Aside0.mk (show IsS81 w w8 g b _ _ from by rw [hw]; exact HI.out.far HGZ.out _); have n1_ := Aside0.mk (show Below w.heap.size w w8 from by rw [hw]; exact below_set HB.out HGW.out); have n2_ := Aside0.mk (show RowB 5 w8 w3.heap.size _ ((bytesL s).set z.toNat (y % 256)) from by rw [hw]; exact HZ.out z.toNat (y % 256) (by have := HN.out; (try have := HY.out); (try simp only [List.length_set, List.length_append, List.length_singleton]); omega)); clear HI HB RB hw hx1 hf1 HZ HGZ HGW; have HI := n0_; have HB := n1_; have RB := n2_; clear n0_ n1_ n2_; clear hz0 hz1))
              | (go_at_call 36; go_loud ((with_reducible refine (spec_l1Once.calls g b i4 h4 10 true i5 h5 w _ HI.out HB.out E7.out).mono ?_); rintro e w9 ⟨rfl, hi, hb, hk⟩; have n0_ := Aside0.mk hi; have n1_ := Aside0.mk hb; have n2_ := Aside0.mk (RB.out.keep hk HG.out); clear HI HB hi hb RB; have HI := n0_; have HB := n1_; have RB := n2_; clear n0_ n1_ hk n2_; clear E7))
              | (at_builtin; go_loud (refine RowB.append_wp w3.heap.size rfl (.tmp 24) (.tmp 25) 23 5 rfl Try.underlying23 (by kernel_rfl) (RB.out.below (below_alloc (Below.refl _ _) _)) (C_one _ 48) rfl rfl (by (try simp only [List.length_set, List.length_append, List.length_singleton]); have := HN.out; (try have := HY.out); omega) (Nat.le_trans (Nat.le_of_lt (by obtain ⟨gz, cz, ez, hz1, hz2, _⟩ := RB.out.form; omega)) (below_alloc (Below.refl _ _) _).size) ?_; intro v1 wB hR2 hb2; have n0_ := Aside0.mk (show IsS81 w wB g b _ _ from by obtain ⟨Az, cz, a_, b_, c_⟩ := (HI.out.alloc _); exact ⟨Az, cz, (hb2.block _ HG.out).trans a_, b_, c_⟩); have n1_ := Aside0.mk (show Below w.heap.size w wB from (below_alloc HB.out _).trans (hb2.mono HG3.out)); have RB2 := Aside0.mk hR2; clear HI HB RB hR2 hb2; have HI := n0_; have HB := n1_; have RB := RB2; clear n0_ n1_ RB2; obtain ⟨g2, c2, ev, hq1, hq2, hq3, hq4⟩ := RB.out.form; subst ev; clear hq1 hq2 hq3 hq4))
              | (go_at_call 36; go_loud ((with_reducible refine (spec_l1Once.calls g b i5 h5 10 false i6 h6 w _ HI.out HB.out E8.out).mono ?_); rintro e wA ⟨rfl, hi, hb, hk⟩; have n0_ := Aside0.mk hi; have n1_ := Aside0.mk hb; have n2_ := Aside0.mk (RB.out.keep hk HG.out); clear HI HB hi hb RB; have HI := n0_; have HB := n1_; have RB := n2_; clear n0_ n1_ hk n2_; clear E8; obtain ⟨Az, cz, ez, hlz, hCz⟩ := RB.out.reads (by (try simp only [List.length_set, List.length_append, List.length_singleton]); have := HN.out; (try have := HY.out); omega); injection ez with ea_ eb_ ec_; subst ea_; subst ec_; have HS := Kd.C_string (P := Try.prog) (src := 23) (dst := 9) (e := 5) (c := c2) Try.underlying23 Try.underlying5 Try.underlying9 hCz; (try simp only [List.length_set, List.length_append, List.length_cons, List.length_nil, Nat.zero_add] at HS); clear hCz eb_ hlz))
              | (rw [HS])
              | go_in)
            go_ret
            exact ⟨rfl, HB.out⟩
        | false =>
          cases o3 with
          | true =>
            simp only [if_true, if_false, reduceCtorEq, ite_true, ite_false, Bool.false_eq_true] at h
            obtain rfl := Option.some.inj h
            clear h
            go_enter Try.func18, Try.ntmps18
            go_wp2_with (first
              | (go_at_call 32; go_loud ((with_reducible refine (spec_l1New.calls k _ _ l0 b i0 h0 w _ (by repeat (first | (with_reducible first | exact HB.out | apply below_alloc | apply pw_below_drewN | apply below_drew1) | exact HB.out)) HR0.out HC0.out E1.out).mono ?_); rintro e w1 ⟨g, rfl, hi, hb, hb2⟩; have n1_ := Aside0.mk hb; have HI := Aside0.mk hi; clear HB hi hb hb2 E1; have HB := n1_; clear n1_))
              | (go_at_call 33; go_loud ((with_reducible refine (spec_l1U64.calls k g b i0 h0 x i1 h1 w _ HI.out HB.out E2.out).mono ?_); rintro e w2 ⟨rfl, hi, hb, hk⟩; have n0_ := Aside0.mk hi; have n1_ := Aside0.mk hb; clear HI HB hi hb; have HI := n0_; have HB := n1_; clear n0_ n1_ hk; clear E2))
              | (go_at_call 35; go_loud ((with_reducible refine (spec_Word32.calls k x s _ E3.out).mono ?_); rintro e w3 ⟨rfl, hb⟩; have n0_ := Aside0.mk (HI.out.below hb); have n1_ := Aside0.mk (below_step HB.out hb); clear HI HB hb E3; have HI := n0_; have HB := n1_; clear n0_ n1_))
              | go_in)
            refine conv_step (G := fun z => Oper.upon _ _ _ _ _ (Result.andThen z _)) Try.underlying9 Try.underlying23 Try.underlying5 (by omega) fun g1 c1 w4 hl1 _ hb4 hR1 => ?_
            have HG := Aside0.mk HI.out.lt
            have HS3 := Aside0.mk (show w3.heap.size ≤ w4.heap.size from hb4.size)
            have n0_ := Aside0.mk (HI.out.below hb4)
            have n1_ := Aside0.mk (below_step HB.out hb4)
            have HG3 := Aside0.mk (show w.heap.size ≤ w3.heap.size from HB.out.size)
            clear HI HB
            have HI := n0_
            have HB := n1_
            have RB := Aside0.mk hR1
            clear n0_ n1_ hb4 hR1
            have HN := Aside0.mk (show (bytesL s).length = 13 by rw [bytesL_length]; exact hs)
            go_wp2_with (first
              | (go_at_call 36; go_loud ((with_reducible refine (spec_l1Once.calls g b i1 h1 4 true i2 h2 w _ HI.out HB.out E4.out).mono ?_); rintro e w5 ⟨rfl, hi, hb, hk⟩; have n0_ := Aside0.mk hi; have n1_ := Aside0.mk hb; have n2_ := Aside0.mk (RB.out.keep hk HG.out); clear HI HB hi hb RB; have HI := n0_; have HB := n1_; have RB := n2_; clear n0_ n1_ hk n2_; clear E4))
              | (go_at_call 37; go_loud ((with_reducible refine (spec_l1Below.calls g b i2 h2 128 y i3 h3 w _ HI.out HB.out E5.out).mono ?_); rintro e w6 ⟨rfl, hi, hb, hk⟩; have n0_ := Aside0.mk hi; have n1_ := Aside0.mk hb; have n2_ := Aside0.mk (RB.out.keep hk HG.out); clear HI HB hi hb RB; have HI := n0_; have HB := n1_; have RB := n2_; clear n0_ n1_ hk n2_; clear E5))
              | (go_at_call 37; go_loud ((with_reducible refine (spec_l1Below.calls g b i3 h3 13 z i4 h4 w _ HI.out HB.out E6.out).mono ?_); rintro e w7 ⟨rfl, hi, hb, hk⟩; have n0_ := Aside0.mk hi; have n1_ := Aside0.mk hb; have n2_ := Aside0.mk (RB.out.keep hk HG.out); clear HI HB hi hb RB; have HI := n0_; have HB := n1_; have RB := n2_; clear n0_ n1_ hk n2_; clear E6; obtain ⟨gz, cz, ez, hz1, hz2, hz3, hz4⟩ := RB.out.form; injection ez with ea_ eb_ ec_; injection ea_ with ea_; injection ea_ with ea_ _ _; subst ea_; subst ec_; clear eb_; have HZ := Aside0.mk hz4; have HGZ := Aside0.mk (show g ≠ g1 from fun e_ => by have := HG.out; omega); have HGW := Aside0.mk (show w.heap.size ≤ g1 from Nat.le_trans HG3.out hz1); have hx1 := (hz3 z.toNat (by have := HN.out; (try have := HY.out); (try simp only [List.length_set, List.length_append, List.length_singleton]); omega)).1; have hf1 := (hz3 z.toNat (by have := HN.out; (try have := HY.out); (try simp only [List.length_set, List.length_append, List.length_singleton]); omega)).2; clear hz1 hz2 hz3 hz4; have hz0 := eq_true HY.out.1; have hz1 : (z < ((bytesL s).length : Int)) = True := eq_true (by have := HY.out.2; have := HN.out; (try have := HY.out); omega)))
              | ((with_reducible refine gate_store (t := 5) (p := 21) rfl ?_); go_loud (refine store_event (t := 5) (p := 21) (v := ?vo_1) (w1 := (w7.setCell ⟨g1, z.toNat, none⟩ (.int .u8 (y % 256)))) ?hg ?ho ?hn ?hr ?_; (case ho => rfl); (case hg => rfl); (case hn => rfl); (case hr => first | (go_simp; done) | (go_simp; rfl)); intro w8 hw; have n0_ := Aside0.mk (show IsS81 w w8 g b _ _ from by rw [hw]; exact HI.out.far HGZ.out _); have n1_ := Aside0.mk (show Below w.heap.size w w8 from by rw [hw]; exact below_set HB.out HGW.out); have n2_ := Aside0.mk (show RowB 5 w8 w3.heap.size _ ((bytesL s).set z.toNat (y % 256)) from by rw [hw]; exact HZ.out z.toNat (y % 256) (by have := HN.out; (try have := HY.out); (try simp only [List.length_set, List.length_append, List.length_singleton]); omega)); clear HI HB RB hw hx1 hf1 HZ HGZ HGW; have HI := n0_; have HB := n1_; have RB := n2_; clear n0_ n1_ n2_; clear hz0 hz1))
              | (go_at_call 36; go_loud ((with_reducible refine (spec_l1Once.calls g b i4 h4 10 false i5 h5 w _ HI.out HB.out E7.out).mono ?_); rintro e w9 ⟨rfl, hi, hb, hk⟩; have n0_ := Aside0.mk hi; have n1_ := Aside0.mk hb; have n2_ := Aside0.mk (RB.out.keep hk HG.out); clear HI HB hi hb RB; have HI := n0_; have HB := n1_; have RB := n2_; clear n0_ n1_ hk n2_; clear E7))
              | (go_at_call 36; go_loud ((with_reducible refine (spec_l1Once.calls g b i5 h5 10 true i6 h6 w _ HI.out HB.out E8.out).mono ?_); rintro e wA ⟨rfl, hi, hb, hk⟩; have n0_ := Aside0.mk hi; have n1_ := Aside0.mk hb; have n2_ := Aside0.mk (RB.out.keep hk HG.out); clear HI HB hi hb RB; have HI := n0_; have HB := n1_; have RB := n2_; clear n0_ n1_ hk n2_; clear E8; obtain ⟨gz, cz, ez, hz1, hz2, hz3, hz4⟩ := RB.out.form; injection ez with ea_ eb_ ec_; injection ea_ with ea_; injection ea_ with ea_ _ _; subst ea_; subst ec_; clear eb_; have HZ := Aside0.mk hz4; have HGZ := Aside0.mk (show g ≠ g1 from fun e_ => by have := HG.out; omega); have HGW := Aside0.mk (show w.heap.size ≤ g1 from Nat.le_trans HG3.out hz1); have hx2 := (hz3 0 (by have := HN.out; (try have := HY.out); (try simp only [List.length_set, List.length_append, List.length_singleton]); omega)).1; have hf2 := (hz3 0 (by have := HN.out; (try have := HY.out); (try simp only [List.length_set, List.length_append, List.length_singleton]); omega)).2; clear hz1 hz2 hz3 hz4; have hl0 : (0 < (bytesL s).length) = True := eq_true (by have := HN.out; omega)))
              | ((with_reducible refine gate_store (t := 5) (p := 30) rfl ?_); go_loud (refine store_event (t := 5) (p := 30) (v := ?vo_2) (w1 := (wA.setCell ⟨g1, 0, none⟩ (.int .u8 122))) ?hg ?ho ?hn ?hr ?_; (case ho => rfl); (case hg => rfl); (case hn => rfl); (case hr => first | (go_simp; done) | (go_simp; rfl)); intro wC hw; have n0_ := Aside0.mk (show IsS81 w wC g b _ _ from by rw [hw]; exact HI.out.far HGZ.out _); have n1_ := Aside0.mk (show Below w.heap.size w wC from by rw [hw]; exact below_set HB.out HGW.out); have n2_ := Aside0.mk (show RowB 5 wC w3.heap.size _ (((bytesL s).set z.toNat (y % 256)).set 0 122) from by rw [hw]; exact HZ.out 0 122 (by have := HN.out; (try have := HY.out); (try simp only [List.length_set, List.length_append, List.length_singleton]); omega)); clear HI HB RB hw hx2 hf2 HZ HGZ HGW; have HI := n0_; have HB := n1_; have RB := n2_; clear n0_ n1_ n2_; obtain ⟨Az, cz, ez, hlz, hCz⟩ := RB.out.reads (by (try simp only [List.length_set, List.length_append, List.length_singleton]); have := HN.out; (try have := HY.out); omega); injection ez with ea_ eb_ ec_; subst ea_; subst ec_; have HS := Kd.C_string (P := Try.prog) (src := 23) (dst := 9) (e := 5) (c := c1) Try.underlying23 Try.underlying5 Try.underlying9 hCz; (try simp only [List.length_set, List.length_append, List.length_cons, List.length_nil, Nat.zero_add] at HS); clear hCz eb_ hlz))
              | (rw [HS])
              | go_in)
            go_ret
            exact ⟨rfl, HB.out⟩
          | false =>
            simp only [if_true, if_false, reduceCtorEq, ite_true, ite_false, Bool.false_eq_true] at h
            obtain rfl := Option.some.inj h
            clear h
            go_enter Try.func18, Try.ntmps18
            go_wp2_with (first
              | (go_at_call 32; go_loud ((with_reducible refine (spec_l1New.calls k _ _ l0 b i0 h0 w _ (by repeat (first | (with_reducible first | exact HB.out | apply below_alloc | apply pw_below_drewN | apply below_drew1) | exact HB.out)) HR0.out HC0.out E1.out).mono ?_); rintro e w1 ⟨g, rfl, hi, hb, hb2⟩; have n1_ := Aside0.mk hb; have HI := Aside0.mk hi; clear HB hi hb hb2 E1; have HB := n1_; clear n1_))
              | (go_at_call 33; go_loud ((with_reducible refine (spec_l1U64.calls k g b i0 h0 x i1 h1 w _ HI.out HB.out E2.out).mono ?_); rintro e w2 ⟨rfl, hi, hb, hk⟩; have n0_ := Aside0.mk hi; have n1_ := Aside0.mk hb; clear HI HB hi hb; have HI := n0_; have HB := n1_; clear n0_ n1_ hk; clear E2))
              | (go_at_call 35; go_loud ((with_reducible refine (spec_Word32.calls k x s _ E3.out).mono ?_); rintro e w3 ⟨rfl, hb⟩; have n0_ := Aside0.mk (HI.out.below hb); have n1_ := Aside0.mk (below_step HB.out hb); clear HI HB hb E3; have HI := n0_; have HB := n1_; clear n0_ n1_))
              | go_in)
            refine conv_step (G := fun z => Oper.upon _ _ _ _ _ (Result.andThen z _)) Try.underlying9 Try.underlying23 Try.underlying5 (by omega) fun g1 c1 w4 hl1 _ hb4 hR1 => ?_
            have HG := Aside0.mk HI.out.lt
            have HS3 := Aside0.mk (show w3.heap.size ≤ w4.heap.size from hb4.size)
            have n0_ := Aside0.mk (HI.out.below hb4)
            have n1_ := Aside0.mk (below_step HB.out hb4)
            have HG3 := Aside0.mk (show w.heap.size ≤ w3.heap.size from HB.out.size)
            clear HI HB
            have HI := n0_
            have HB := n1_
            have RB := Aside0.mk hR1
            clear n0_ n1_ hb4 hR1
            have HN := Aside0.mk (show (bytesL s).length = 13 by rw [bytesL_length]; exact hs)
            go_wp2_with (first
              | (go_at_call 36; go_loud ((with_reducible refine (spec_l1Once.calls g b i1 h1 4 true i2 h2 w _ HI.out HB.out E4.out).mono ?_); rintro e w5 ⟨rfl, hi, hb, hk⟩; have n0_ := Aside0.mk hi; have n1_ := Aside0.mk hb; have n2_ := Aside0.mk (RB.out.keep hk HG.out); clear HI HB hi hb RB; have HI := n0_; have HB := n1_; have RB := n2_; clear n0_ n1_ hk n2_; clear E4))
              | (go_at_call 37; go_loud ((with_reducible refine (spec_l1Below.calls g b i2 h2 128 y i3 h3 w _ HI.out HB.out E5.out).mono ?_); rintro e w6 ⟨rfl, hi, hb, hk⟩; have n0_ := Aside0.mk hi; have n1_ := Aside0.mk hb; have n2_ := Aside0.mk (RB.out.keep hk HG.out); clear HI HB hi hb RB; have HI := n0_; have HB := n1_; have RB := n2_; clear n0_ n1_ hk n2_; clear E5))
              | (go_at_call 37; go_loud ((with_reducible refine (spec_l1Below.calls g b i3 h3 13 z i4 h4 w _ HI.out HB.out E6.out).mono ?_); rintro e w7 ⟨rfl, hi, hb, hk⟩; have n0_ := Aside0.mk hi; have n1_ := Aside0.mk hb; have n2_ := Aside0.mk (RB.out.keep hk HG.out); clear HI HB hi hb RB; have HI := n0_; have HB := n1_; have RB := n2_; clear n0_ n1_ hk n2_; clear E6; obtain ⟨gz, cz, ez, hz1, hz2, hz3, hz4⟩ := RB.out.form; injection ez with ea_ eb_ ec_; injection ea_ with ea_; injection ea_ with ea_ _ _; subst ea_; subst ec_; clear eb_; have HZ := Aside0.mk hz4; have HGZ := Aside0.mk (show g ≠ g1 from fun e_ => by have := HG.out; omega); have HGW := Aside0.mk (show w.heap.size ≤ g1 from Nat.le_trans HG3.out hz1); have hx1 := (hz3 z.toNat (by have := HN.out; (try have := HY.out); (try simp only [List.length_set, List.length_append, List.length_singleton]); omega)).1; have hf1 := (hz3 z.toNat (by have := HN.out; (try have := HY.out); (try simp only [List.length_set, List.length_append, List.length_singleton]); omega)).2; clear hz1 hz2 hz3 hz4; have hz0 := eq_true HY.out.1; have hz1 : (z < ((bytesL s).length : Int)) = True := eq_true (by have := HY.out.2; have := HN.out; (try have := HY.out); omega)))
              | ((with_reducible refine gate_store (t := 5) (p := 21) rfl ?_); go_loud (refine store_event (t := 5) (p := 21) (v := ?vo_1) (w1 := (w7.setCell ⟨g1, z.toNat, none⟩ (.int .u8 (y % 256)))) ?hg ?ho ?hn ?hr ?_; (case ho => rfl); (case hg => rfl); (case hn => rfl); (case hr => first | (go_simp; done) | (go_simp; rfl)); intro w8 hw; have n0_ := Aside0.mk (show IsS81 w w8 g b _ _ from by rw [hw]; exact HI.out.far HGZ.out _); have n1_ := Aside0.mk (show Below w.heap.size w w8 from by rw [hw]; exact below_set HB.out HGW.out); have n2_ := Aside0.mk (show RowB 5 w8 w3.heap.size _ ((bytesL s).set z.toNat (y % 256)) from by rw [hw]; exact HZ.out z.toNat (y % 256) (by have := HN.out; (try have := HY.out); (try simp only [List.length_set, List.length_append, List.length_singleton]); omega)); clear HI HB RB hw hx1 hf1 HZ HGZ HGW; have HI := n0_; have HB := n1_; have RB := n2_; clear n0_ n1_ n2_; clear hz0 hz1))
              | (go_at_call 36; go_loud ((with_reducible refine (spec_l1Once.calls g b i4 h4 10 false i5 h5 w _ HI.out HB.out E7.out).mono ?_); rintro e w9 ⟨rfl, hi, hb, hk⟩; have n0_ := Aside0.mk hi; have n1_ := Aside0.mk hb; have n2_ := Aside0.mk (RB.out.keep hk HG.out); clear HI HB hi hb RB; have HI := n0_; have HB := n1_; have RB := n2_; clear n0_ n1_ hk n2_; clear E7))
              | (go_at_call 36; go_loud ((with_reducible refine (spec_l1Once.calls g b i5 h5 10 false i6 h6 w _ HI.out HB.out E8.out).mono ?_); rintro e wA ⟨rfl, hi, hb, hk⟩; have n0_ := Aside0.mk hi; have n1_ := Aside0.mk hb; have n2_ := Aside0.mk (RB.out.keep hk HG.out); clear HI HB hi hb RB; have HI := n0_; have HB := n1_; have RB := n2_; clear n0_ n1_ hk n2_; clear E8; obtain ⟨Az, cz, ez, hlz, hCz⟩ := RB.out.reads (by (try simp only [List.length_set, List.length_append, List.length_singleton]); have := HN.out; (try have := HY.out); omega); injection ez with ea_ eb_ ec_; subst ea_; subst ec_; have HS := Kd.C_string (P := Try.prog) (src := 23) (dst := 9) (e := 5) (c := c1) Try.underlying23 Try.underlying5 Try.underlying9 hCz; (try simp only [List.length_set, List.length_append, List.length_cons, List.length_nil, Nat.zero_add] at HS); clear hCz eb_ hlz))
              | (rw [HS])
              | go_in)
            go_ret
            exact ⟨rfl, HB.out⟩
      · rw [if_neg hy] at h
        exact absurd h (by simp)
    | false =>
      rw [if_neg (by simp)] at h
      unfold drw2 at h
      replace h := Option.bind_eq_some_iff.mp h
      obtain ⟨⟨o2, i5, h5⟩, EE, h⟩ := h
      have E7 := Aside0.mk EE
      clear EE
      try dsimp only at h
      unfold drw3 at h
      replace h := Option.bind_eq_some_iff.mp h
      obtain ⟨⟨o3, i6, h6⟩, EE, h⟩ := h
      have E8 := Aside0.mk EE
      clear EE
      try dsimp only at h
      cases o2 with
      | true =>
        cases o3 with
        | true =>
          simp only [if_true, if_false, reduceCtorEq, ite_true, ite_false, Bool.false_eq_true] at h
          obtain rfl := Option.some.inj h
          clear h
          go_enter Try.func18, Try.ntmps18
          go_wp2_with (first
            | (go_at_call 32; go_loud ((with_reducible refine (spec_l1New.calls k _ _ l0 b i0 h0 w _ (by repeat (first | (with_reducible first | exact HB.out | apply below_alloc | apply pw_below_drewN | apply below_drew1) | exact HB.out)) HR0.out HC0.out E1.out).mono ?_); rintro e w1 ⟨g, rfl, hi, hb, hb2⟩; have n1_ := Aside0.mk hb; have HI := Aside0.mk hi; clear HB hi hb hb2 E1; have HB := n1_; clear n1_))
            | (go_at_call 33; go_loud ((with_reducible refine (spec_l1U64.calls k g b i0 h0 x i1 h1 w _ HI.out HB.out E2.out).mono ?_); rintro e w2 ⟨rfl, hi, hb, hk⟩; have n0_ := Aside0.mk hi; have n1_ := Aside0.mk hb; clear HI HB hi hb; have HI := n0_; have HB := n1_; clear n0_ n1_ hk; clear E2))
            | (go_at_call 35; go_loud ((with_reducible refine (spec_Word32.calls k x s _ E3.out).mono ?_); rintro e w3 ⟨rfl, hb⟩; have n0_ := Aside0.mk (HI.out.below hb); have n1_ := Aside0.mk (below_step HB.out hb); clear HI HB hb E3; have HI := n0_; have HB := n1_; clear n0_ n1_))
            | go_in)
          refine conv_step (G := fun z => Oper.upon _ _ _ _ _ (Result.andThen z _)) Try.underlying9 Try.underlying23 Try.underlying5 (by omega) fun g1 c1 w4 hl1 _ hb4 hR1 => ?_
          have HG := Aside0.mk HI.out.lt
          have HS3 := Aside0.mk (show w3.heap.size ≤ w4.heap.size from hb4.size)
          have n0_ := Aside0.mk (HI.out.below hb4)
          have n1_ := Aside0.mk (below_step HB.out hb4)
          have HG3 := Aside0.mk (show w.heap.size ≤ w3.heap.size from HB.out.size)
          clear HI HB
          have HI := n0_
          have HB := n1_
          have RB := Aside0.mk hR1
          clear n0_ n1_ hb4 hR1
          have HN := Aside0.mk (show (bytesL s).length = 13 by rw [bytesL_length]; exact hs)
          go_wp2_with (first
            | (go_at_call 36; go_loud ((with_reducible refine (spec_l1Once.calls g b i1 h1 4 false i2 h2 w _ HI.out HB.out E4.out).mono ?_); rintro e w5 ⟨rfl, hi, hb, hk⟩; have n0_ := Aside0.mk hi; have n1_ := Aside0.mk hb; have n2_ := Aside0.mk (RB.out.keep hk HG.out); clear HI HB hi hb RB; have HI := n0_; have HB := n1_; have RB := n2_; clear n0_ n1_ hk n2_; clear E4))
            | (go_at_call 36; go_loud ((with_reducible refine (spec_l1Once.calls g b i2 h2 10 true i5 h5 w _ HI.out HB.out E7.out).mono ?_); rintro e w9 ⟨rfl, hi, hb, hk⟩; have n0_ := Aside0.mk hi; have n1_ := Aside0.mk hb; have n2_ := Aside0.mk (RB.out.keep hk HG.out); clear HI HB hi hb RB; have HI := n0_; have HB := n1_; have RB := n2_; clear n0_ n1_ hk n2_; clear E7))
            | (at_builtin; go_loud (refine RowB.append_wp w3.heap.size rfl (.tmp 24) (.tmp 25) 23 5 rfl Try.underlying23 (by kernel_rfl) (RB.out.below (below_alloc (Below.refl _ _) _)) (C_one _ 48) rfl rfl (by (try simp only [List.length_set, List.length_append, List.length_singleton]); have := HN.out; (try have := HY.out); omega) (Nat.le_trans (Nat.le_of_lt (by obtain ⟨gz, cz, ez, hz1, hz2, _⟩ := RB.out.form; omega)) (below_alloc (Below.refl _ _) _).size) ?_; intro v1 wB hR2 hb2; have n0_ := Aside0.mk (show IsS81 w wB g b _ _ from by obtain ⟨Az, cz, a_, b_, c_⟩ := (HI.out.alloc _); exact ⟨Az, cz, (hb2.block _ HG.out).trans a_, b_, c_⟩); have n1_ := Aside0.mk (show Below w.heap.size w wB from (below_alloc HB.out _).trans (hb2.mono HG3.out)); have RB2 := Aside0.mk hR2; clear HI HB RB hR2 hb2; have HI := n0_; have HB := n1_; have RB := RB2; clear n0_ n1_ RB2; obtain ⟨g2, c2, ev, hq1, hq2, hq3, hq4⟩ := RB.out.form; subst ev; clear hq1 hq2 hq3 hq4))
            | (go_at_call 36; go_loud ((with_reducible refine (spec_l1Once.calls g b i5 h5 10 true i6 h6 w _ HI.out HB.out E8.out).mono ?_); rintro e wA ⟨rfl, hi, hb, hk⟩; have n0_ := Aside0.mk hi; have n1_ := Aside0.mk hb; have n2_ := Aside0.mk (RB.out.keep hk HG.out); clear HI HB hi hb RB; have HI := n0_; have HB := n1_; have RB := n2_; clear n0_ n1_ hk n2_; clear E8; obtain ⟨gz, cz, ez, hz1, hz2, hz3, hz4⟩ := RB.out.form; injection ez with ea_ eb_ ec_; injection ea_ with ea_; injection ea_ with ea_ _ _; subst ea_; subst ec_; clear eb_; have HZ := Aside0.mk hz4; have HGZ := Aside0.mk (show g ≠ g2 from fun e_ => by have := HG.out; omega); have HGW := Aside0.mk (show w.heap.size ≤ g2 from Nat.le_trans HG3.out hz1); have hx2 := (hz3 0 (by have := HN.out; (try have := HY.out); (try simp only [List.length_set, List.length_append, List.length_singleton]); omega)).1; have hf2 := (hz3 0 (by have := HN.out; (try have := HY.out); (try simp only [List.length_set, List.length_append, List.length_singleton]); omega)).2; clear hz1 hz2 hz3 hz4))
            | ((with_reducible refine gate_store (t := 5) (p := 30) rfl ?_); go_loud (refine store_event (t := 5) (p := 30) (v := ?vo_2) (w1 := (wA.setCell ⟨g2, 0, none⟩ (.int .u8 122))) ?hg ?ho ?hn ?hr ?_; (case ho => rfl); (case hg => rfl); (case hn => rfl); (case hr => first | (go_simp; done) | (go_simp; rfl)); intro wC hw; have n0_ := Aside0.mk (show IsS81 w wC g b _ _ from by rw [hw]; exact HI.out.far HGZ.out _); have n1_ := Aside0.mk (show Below w.heap.size w wC from by rw [hw]; exact below_set HB.out HGW.out); have n2_ := Aside0.mk (show RowB 5 wC w3.heap.size _ (((bytesL s) ++ [48]).set 0 122) from by rw [hw]; exact HZ.out 0 122 (by have := HN.out; (try have := HY.out); (try simp only [List.length_set, List.length_append, List.length_singleton]); omega)); clear HI HB RB hw hx2 hf2 HZ HGZ HGW; have HI := n0_; have HB := n1_; have RB := n2_; clear n0_ n1_ n2_; obtain ⟨Az, cz, ez, hlz, hCz⟩ := RB.out.reads (by (try simp only [List.length_set, List.length_append, List.length_singleton]); have := HN.out; (try have := HY.out); omega); injection ez with ea_ eb_ ec_; subst ea_; subst ec_; have HS := Kd.C_string (P := Try.prog) (src := 23) (dst := 9) (e := 5) (c := c2) Try.underlying23 Try.underlying5 Try.underlying9 hCz; (try simp only [List.length_set, List.length_append, List.length_cons, List.length_nil, Nat.zero_add] at HS); clear hCz eb_ hlz))
            | (rw [HS])
            | go_in)
          go_ret
          exact ⟨rfl, HB.out⟩
        | false =>
          simp only [if_true, if_false, reduceCtorEq, ite_true, ite_false, Bool.false_eq_true] at h
          obtain rfl := Option.some.inj h
          clear h
          go_enter Try.func18, Try.ntmps18
          go_wp2_with (first
            | (go_at_call 32; go_loud ((with_reducible refine (spec_l1New.calls k _ _ l0 b i0 h0 w _ (by repeat (first | (with_reducible first | exact HB.out | apply below_alloc | apply pw_below_drewN | apply below_drew1) | exact HB.out)) HR0.out HC0.out E1.out).mono ?_); rintro e w1 ⟨g, rfl, hi, hb, hb2⟩; have n1_ := Aside0.mk hb; have HI := Aside0.mk hi; clear HB hi hb hb2 E1; have HB := n1_; clear n1_))
            | (go_at_call 33; go_loud ((with_reducible refine (spec_l1U64.calls k g b i0 h0 x i1 h1 w _ HI.out HB.out E2.out).mono ?_); rintro e w2 ⟨rfl, hi, hb, hk⟩; have n0_ := Aside0.mk hi; have n1_ := Aside0.mk hb; clear HI HB hi hb; have HI := n0_; have HB := n1_; clear n0_ n1_ hk; clear E2))
            | (go_at_call 35; go_loud ((with_reducible refine (spec_Word32.calls k x s _ E3.out).mono ?_); rintro e w3 ⟨rfl, hb⟩; have n0_ := Aside0.mk (HI.out.below hb); have n1_ := Aside0.mk (below_step HB.out hb); clear HI HB hb E3; have HI := n0_; have HB := n1_; clear n0_ n1_))
            | go_in)
          refine conv_step (G := fun z => Oper.upon _ _ _ _ _ (Result.andThen z _)) Try.underlying9 Try.underlying23 Try.underlying5 (by omega) fun g1 c1 w4 hl1 _ hb4 hR1 => ?_
          have HG := Aside0.mk HI.out.lt
          have HS3 := Aside0.mk (show w3.heap.size ≤ w4.heap.size from hb4.size)
          have n0_ := Aside0.mk (HI.out.below hb4)
          have n1_ := Aside0.mk (below_step HB.out hb4)
          have HG3 := Aside0.mk (show w.heap.size ≤ w3.heap.size from HB.out.size)
          clear HI HB
          have HI := n0_
          have HB := n1_
          have RB := Aside0.mk hR1
          clear n0_ n1_ hb4 hR1
          have HN := Aside0.mk (show (bytesL s).length = 13 by rw [bytesL_length]; exact hs)
          go_wp2_with (first
            | (go_at_call 36; go_loud ((with_reducible refine (spec_l1Once.calls g b i1 h1 4 false i2 h2 w _ HI.out HB.out E4.out).mono ?_); rintro e w5 ⟨rfl, hi, hb, hk⟩; have n0_ := Aside0.mk hi; have n1_ := Aside0.mk hb; have n2_ := Aside0.mk (RB.out.keep hk HG.out); clear HI HB hi hb RB; have HI := n0_; have HB := n1_; have RB := n2_; clear n0_ n1_ hk n2_; clear E4))
            | (go_at_call 36; go_loud ((with_reducible refine (spec_l1Once.calls g b i2 h2 10 true i5 h5 w _ HI.out HB.out E7.out).mono ?_); rintro e w9 ⟨rfl, hi, hb, hk⟩; have n0_ := Aside0.mk hi; have n1_ := Aside0.mk hb; have n2_ := Aside0.mk (RB.out.keep hk HG.out); clear HI HB hi hb RB; have HI := n0_; have HB := n1_; have RB := n2_; clear n0_ n1_ hk n2_; clear E7))
            | (at_builtin; go_loud (refine RowB.append_wp w3.heap.size rfl (.tmp 24) (.tmp 25) 23 5 rfl Try.underlying23 (by kernel_rfl) (RB.out.below (below_alloc (Below.refl _ _) _)) (C_one _ 48) rfl rfl (by (try simp only [List.length_set, List.length_append, List.length_singleton]); have := HN.out; (try have := HY.out); omega) (Nat.le_trans (Nat.le_of_lt (by obtain ⟨gz, cz, ez, hz1, hz2, _⟩ := RB.out.form; omega)) (below_alloc (Below.refl _ _) _).size) ?_; intro v1 wB hR2 hb2; have n0_ := Aside0.mk (show IsS81 w wB g b _ _ from by obtain ⟨Az, cz, a_, b_, c_⟩ := (HI.out.alloc _); exact ⟨Az, cz, (hb2.block _ HG.out).trans a_, b_, c_⟩); have n1_ := Aside0.mk (show Below w.heap.size w wB from (below_alloc HB.out _).trans (hb2.mono HG3.out)); have RB2 := Aside0.mk hR2; clear HI HB RB hR2 hb2; have HI := n0_; have HB := n1_; have RB := RB2; clear n0_ n1_ RB2; obtain ⟨g2, c2, ev, hq1, hq2, hq3, hq4⟩ := RB.out.form; subst ev; clear hq1 hq2 hq3 hq4))
            | (go_at_call 36; go_loud ((with_reducible refine (spec_l1Once.calls g b i5 h5 10 false i6 h6 w _ HI.out HB.out E8.out).mono ?_); rintro e wA ⟨rfl, hi, hb, hk⟩; have n0_ := Aside0.mk hi; have n1_ := Aside0.mk hb; have n2_ := Aside0.mk (RB.out.keep hk HG.out); clear HI HB hi hb RB; have HI := n0_; have HB := n1_; have RB := n2_; clear n0_ n1_ hk n2_; clear E8; obtain ⟨Az, cz, ez, hlz, hCz⟩ := RB.out.reads (by (try simp only [List.length_set, List.length_append, List.length_singleton]); have := HN.out; (try have := HY.out); omega); injection ez with ea_ eb_ ec_; subst ea_; subst ec_; have HS := Kd.C_string (P := Try.prog) (src := 23) (dst := 9) (e := 5) (c := c2) Try.underlying23 Try.underlying5 Try.underlying9 hCz; (try simp only [List.length_set, List.length_append, List.length_cons, List.length_nil, Nat.zero_add] at HS); clear hCz eb_ hlz))
            | (rw [HS])
            | go_in)
          go_ret
          exact ⟨rfl, HB.out⟩
      | false =>
        cases o3 with
        | true =>
          simp only [if_true, if_false, reduceCtorEq, ite_true, ite_false, Bool.false_eq_true] at h
          obtain rfl := Option.some.inj h
          clear h
          go_enter Try.func18, Try.ntmps18
          go_wp2_with (first
            | (go_at_call 32; go_loud ((with_reducible refine (spec_l1New.calls k _ _ l0 b i0 h0 w _ (by repeat (first | (with_reducible first | exact HB.out | apply below_alloc | apply pw_below_drewN | apply below_drew1) | exact HB.out)) HR0.out HC0.out E1.out).mono ?_); rintro e w1 ⟨g, rfl, hi, hb, hb2⟩; have n1_ := Aside0.mk hb; have HI := Aside0.mk hi; clear HB hi hb hb2 E1; have HB := n1_; clear n1_))
            | (go_at_call 33; go_loud ((with_reducible refine (spec_l1U64.calls k g b i0 h0 x i1 h1 w _ HI.out HB.out E2.out).mono ?_); rintro e w2 ⟨rfl, hi, hb, hk⟩; have n0_ := Aside0.mk hi; have n1_ := Aside0.mk hb; clear HI HB hi hb; have HI := n0_; have HB := n1_; clear n0_ n1_ hk; clear E2))
            | (go_at_call 35; go_loud ((with_reducible refine (spec_Word32.calls k x s _ E3.out).mono ?_); rintro e w3 ⟨rfl, hb⟩; have n0_ := Aside0.mk (HI.out.below hb); have n1_ := Aside0.mk (below_step HB.out hb); clear HI HB hb E3; have HI := n0_; have HB := n1_; clear n0_ n1_))
            | go_in)
          refine conv_step (G := fun z => Oper.upon _ _ _ _ _ (Result.andThen z _)) Try.underlying9 Try.underlying23 Try.underlying5 (by omega) fun g1 c1 w4 hl1 _ hb4 hR1 => ?_
          have HG := Aside0.mk HI.out.lt
          have HS3 := Aside0.mk (show w3.heap.size ≤ w4.heap.size from hb4.size)
          have n0_ := Aside0.mk (HI.out.below hb4)
          have n1_ := Aside0.mk (below_step HB.out hb4)
          have HG3 := Aside0.mk (show w.heap.size ≤ w3.heap.size from HB.out.size)
          clear HI HB
          have HI := n0_
          have HB := n1_
          have RB := Aside0.mk hR1
          clear n0_ n1_ hb4 hR1
          have HN := Aside0.mk (show (bytesL s).length = 13 by rw [bytesL_length]; exact hs)
          go_wp2_with (first
            | (go_at_call 36; go_loud ((with_reducible refine (spec_l1Once.calls g b i1 h1 4 false i2 h2 w _ HI.out HB.out E4.out).mono ?_); rintro e w5 ⟨rfl, hi, hb, hk⟩; have n0_ := Aside0.mk hi; have n1_ := Aside0.mk hb; have n2_ := Aside0.mk (RB.out.keep hk HG.out); clear HI HB hi hb RB; have HI := n0_; have HB := n1_; have RB := n2_; clear n0_ n1_ hk n2_; clear E4))
            | (go_at_call 36; go_loud ((with_reducible refine (spec_l1Once.calls g b i2 h2 10 false i5 h5 w _ HI.out HB.out E7.out).mono ?_); rintro e w9 ⟨rfl, hi, hb, hk⟩; have n0_ := Aside0.mk hi; have n1_ := Aside0.mk hb; have n2_ := Aside0.mk (RB.out.keep hk HG.out); clear HI HB hi hb RB; have HI := n0_; have HB := n1_; have RB := n2_; clear n0_ n1_ hk n2_; clear E7))
            | (go_at_call 36; go_loud ((with_reducible refine (spec_l1Once.calls g b i5 h5 10 true i6 h6 w _ HI.out HB.out E8.out).mono ?_); rintro e wA ⟨rfl, hi, hb, hk⟩; have n0_ := Aside0.mk hi; have n1_ := Aside0.mk hb; have n2_ := Aside0.mk (RB.out.keep hk HG.out); clear HI HB hi hb RB; have HI := n0_; have HB := n1_; have RB := n2_; clear n0_ n1_ hk n2_; clear E8; obtain ⟨gz, cz, ez, hz1, hz2, hz3, hz4⟩ := RB.out.form; injection ez with ea_ eb_ ec_; injection ea_ with ea_; injection ea_ with ea_ _ _; subst ea_; subst ec_; clear eb_; have HZ := Aside0.mk hz4; have HGZ := Aside0.mk (show g ≠ g1 from fun e_ => by have := HG.out; omega); have HGW := Aside0.mk (show w.heap.size ≤ g1 from Nat.le_trans HG3.out hz1); have hx2 := (hz3 0 (by have := HN.out; (try have := HY.out); (try simp only [List.length_set, List.length_append, List.length_singleton]); omega)).1; have hf2 := (hz3 0 (by have := HN.out; (try have := HY.out); (try simp only [List.length_set, List.length_append, List.length_singleton]); omega)).2; clear hz1 hz2 hz3 hz4; have hl0 : (0 < (bytesL s).length) = True := eq_true (by have := HN.out; omega)))
            | ((with_reducible refine gate_store (t := 5) (p := 30) rfl ?_); go_loud (refine store_event (t := 5) (p := 30) (v := ?vo_2) (w1 := (wA.setCell ⟨g1, 0, none⟩ (.int .u8 122))) ?hg ?ho ?hn ?hr ?_; (case ho => rfl); (case hg => rfl); (case hn => rfl); (case hr => first | (go_simp; done) | (go_simp; rfl)); intro wC hw; have n0_ := Aside0.mk (show IsS81 w wC g b _ _ from by rw [hw]; exact HI.out.far HGZ.out _); have n1_ := Aside0.mk (show Below w.heap.size w wC from by rw [hw]; exact below_set HB.out HGW.out); have n2_ := Aside0.mk (show RowB 5 wC w3.heap.size _ ((bytesL s).set 0 122) from by rw [hw]; exact HZ.out 0 122 (by have := HN.out; (try have := HY.out); (try simp only [List.length_set, List.length_append, List.length_singleton]); omega)); clear HI HB RB hw hx2 hf2 HZ HGZ HGW; have HI := n0_; have HB := n1_; have RB := n2_; clear n0_ n1_ n2_; obtain ⟨Az, cz, ez, hlz, hCz⟩ := RB.out.reads (by (try simp only [List.length_set, List.length_append, List.length_singleton]); have := HN.out; (try have := HY.out); omega); injection ez with ea_ eb_ ec_; subst ea_; subst ec_; have HS := Kd.C_string (P := Try.prog) (src := 23) (dst := 9) (e := 5) (c := c1) Try.underlying23 Try.underlying5 Try.underlying9 hCz; (try simp only [List.length_set, List.length_append, List.length_cons, List.length_nil, Nat.zero_add] at HS); clear hCz eb_ hlz))
            | (rw [HS])
            | go_in)
          go_ret
          exact ⟨rfl, HB.out⟩
        | false =>
          simp only [if_true, if_false, reduceCtorEq, ite_true, ite_false, Bool.false_eq_true] at h
          obtain rfl := Option.some.inj h
          clear h
          go_enter Try.func18, Try.ntmps18
          go_wp2_with (first
            | (go_at_call 32; go_loud ((with_reducible refine (spec_l1New.calls k _ _ l0 b i0 h0 w _ (by repeat (first | (with_reducible first | exact HB.out | apply below_alloc | apply pw_below_drewN | apply below_drew1) | exact HB.out)) HR0.out HC0.out E1.out).mono ?_); rintro e w1 ⟨g, rfl, hi, hb, hb2⟩; have n1_ := Aside0.mk hb; have HI := Aside0.mk hi; clear HB hi hb hb2 E1; have HB := n1_; clear n1_))
            | (go_at_call 33; go_loud ((with_reducible refine (spec_l1U64.calls k g b i0 h0 x i1 h1 w _ HI.out HB.out E2.out).mono ?_); rintro e w2 ⟨rfl, hi, hb, hk⟩; have n0_ := Aside0.mk hi; have n1_ := Aside0.mk hb; clear HI HB hi hb; have HI := n0_; have HB := n1_; clear n0_ n1_ hk; clear E2))
            | (go_at_call 35; go_loud ((with_reducible refine (spec_Word32.calls k x s _ E3.out).mono ?_); rintro e w3 ⟨rfl, hb⟩; have n0_ := Aside0.mk (HI.out.below hb); have n1_ := Aside0.mk (below_step HB.out hb); clear HI HB hb E3; have HI := n0_; have HB := n1_; clear n0_ n1_))
            | go_in)
          refine conv_step (G := fun z => Oper.upon _ _ _ _ _ (Result.andThen z _)) Try.underlying9 Try.underlying23 Try.underlying5 (by omega) fun g1 c1 w4 hl1 _ hb4 hR1 => ?_
          have HG := Aside0.mk HI.out.lt
          have HS3 := Aside0.mk (show w3.heap.size ≤ w4.heap.size from hb4.size)
          have n0_ := Aside0.mk (HI.out.below hb4)
          have n1_ := Aside0.mk (below_step HB.out hb4)
          have HG3 := Aside0.mk (show w.heap.size ≤ w3.heap.size from HB.out.size)
          clear HI HB
          have HI := n0_
          have HB := n1_
          have RB := Aside0.mk hR1
          clear n0_ n1_ hb4 hR1
          have HN := Aside0.mk (show (bytesL s).length = 13 by rw [bytesL_length]; exact hs)
          go_wp2_with (first
            | (go_at_call 36; go_loud ((with_reducible refine (spec_l1Once.calls g b i1 h1 4 false i2 h2 w _ HI.out HB.out E4.out).mono ?_); rintro e w5 ⟨rfl, hi, hb, hk⟩; have n0_ := Aside0.mk hi; have n1_ := Aside0.mk hb; have n2_ := Aside0.mk (RB.out.keep hk HG.out); clear HI HB hi hb RB; have HI := n0_; have HB := n1_; have RB := n2_; clear n0_ n1_ hk n2_; clear E4))
            | (go_at_call 36; go_loud ((with_reducible refine (spec_l1Once.calls g b i2 h2 10 false i5 h5 w _ HI.out HB.out E7.out).mono ?_); rintro e w9 ⟨rfl, hi, hb, hk⟩; have n0_ := Aside0.mk hi; have n1_ := Aside0.mk hb; have n2_ := Aside0.mk (RB.out.keep hk HG.out); clear HI HB hi hb RB; have HI := n0_; have HB := n1_; have RB := n2_; clear n0_ n1_ hk n2_; clear E7))
            | (go_at_call 36; go_loud ((with_reducible refine (spec_l1Once.calls g b i5 h5 10 false i6 h6 w _ HI.out HB.out E8.out).mono ?_); rintro e wA ⟨rfl, hi, hb, hk⟩; have n0_ := Aside0.mk hi; have n1_ := Aside0.mk hb; have n2_ := Aside0.mk (RB.out.keep hk HG.out); clear HI HB hi hb RB; have HI := n0_; have HB := n1_; have RB := n2_; clear n0_ n1_ hk n2_; clear E8; obtain ⟨Az, cz, ez, hlz, hCz⟩ := RB.out.reads (by (try simp only [List.length_set, List.length_append, List.length_singleton]); have := HN.out; (try have := HY.out); omega); injection ez with ea_ eb_ ec_; subst ea_; subst ec_; have HS := Kd.C_string (P := Try.prog) (src := 23) (dst := 9) (e := 5) (c := c1) Try.underlying23 Try.underlying5 Try.underlying9 hCz; (try simp only [List.length_set, List.length_append, List.length_cons, List.length_nil, Nat.zero_add] at HS); clear hCz eb_ hlz))
            | (rw [HS])
            | go_in)
          go_ret
          exact ⟨rfl, HB.out⟩
  · rw [if_neg hs] at h
    exact absurd h (by simp)

/-! ### spec_l1Index: function 38 -/
def spec_l1Index.l0 : Nat → Int → Int → Option (Int)
  | 0, _, _ => none
  | k + 1, x0, x3 => if x3 < 32 then (if 0 ≤ x3 then (if (bt (⟨#[48, 49, 50, 51, 52, 53, 54, 55, 56, 57, 97, 98, 99, 100, 102, 103, 104, 105, 106, 107, 108, 109, 110, 112, 113, 114, 115, 118, 119, 120, 121, 122]⟩ : ByteArray) x3) = x0 then (some x3) else (spec_l1Index.l0 k x0 (wrap64 (x3 + 1)))) else (none)) else (some (-1))
def spec_l1Index.f (k : Nat) (a0 : Int) : Option (Int) := spec_l1Index.l0 k a0 0
theorem spec_l1Index.mono_l : ∀ k, (∀ y0 y1, LeO (spec_l1Index.l0 k y0 y1) (spec_l1Index.l0 (k + 1) y0 y1))
  | 0 => fun _ _ r h => by simp [spec_l1Index.l0] at h
  | k + 1 => by
    have ih0 := spec_l1Index.mono_l k
    · intro y0 y1
      unfold spec_l1Index.l0
      repeat' first
      | (with_reducible exact ih0 _ _)
      | (with_reducible exact LeO.refl _)
      | (with_reducible exact LeO.none _)
      | (with_reducible refine LeO.ite ?_ ?_)
      | (with_reducible refine LeO.bind ?_ (fun _ => ?_))
      | exact ih0 _ _
      | exact LeO.none _
      | refine LeO.ite ?_ ?_
      | refine LeO.bind ?_ (fun _ => ?_)
theorem spec_l1Index.mono : ∀ a0 k, LeO (spec_l1Index.f k a0) (spec_l1Index.f (k + 1) a0) := by
  intro a0 k
  have ih0 := spec_l1Index.mono_l k
  unfold spec_l1Index.f
  repeat' first
      | (with_reducible exact ih0 _ _)
      | (with_reducible exact LeO.refl _)
      | (with_reducible exact LeO.none _)
      | (with_reducible refine LeO.ite ?_ ?_)
      | (with_reducible refine LeO.bind ?_ (fun _ => ?_))
      | exact ih0 _ _
      | exact LeO.none _
      | refine LeO.ite ?_ ?_
      | refine LeO.bind ?_ (fun _ => ?_)
set_option maxHeartbeats 8000000 in
set_option maxRecDepth 100000 in
theorem spec_l1Index.calls (k : Nat) (a0 : Int) (r : Int) (w : World) (h : spec_l1Index.f k a0 = some r) :
    Calls Try.prog 38 #[.int .u8 a0] w fun e w' => e = .returned (.int .i64 r) ∧ Drawn0 w w' := by
  have H : (spec_l1Index.l0 k a0 0) = some r := h
  clear h
  have H' := Aside0.mk H
  clear H
  go_enter Try.func38, Try.ntmps38
  go_wp2
  go_loopg [3] k (fun kq v3 w' => ∃ (x3_1 : Int), v3 = .int .i64 x3_1 ∧ Aside0 (spec_l1Index.l0 kq a0 x3_1 = some r) ∧ Aside0 (kq ≤ k) ∧ Drawn0 w w')
  case atStart => exact ⟨(0), (by first | rfl | (simp; done) | (simp [*]; done)), H', ⟨Nat.le_refl _⟩, by repeat (first | exact Drawn0.refl _ | apply Drawn0.step)⟩
  case round =>
    clear H'
    obtain ⟨x3_1, rfl, HA, HK1, ⟨m1, rfl⟩⟩ := hrel
    cases gk with
    | zero => exact absurd HA.out (by simp [spec_l1Index.l0])
    | succ k1 =>
      have H := HA.out
      clear HA
      simp only [spec_l1Index.l0] at H
      by_cases c2 : x3_1 < 32
      · rw [if_pos c2] at H
        have c2b0 : decide (x3_1 < 32) = true := decide_eq_true c2
        clear c2
        by_cases c3 : 0 ≤ x3_1
        · rw [if_pos c3] at H
          have c3b0 : decide (0 ≤ x3_1) = true := decide_eq_true c3
          clear c3
          by_cases c5 : (bt (⟨#[48, 49, 50, 51, 52, 53, 54, 55, 56, 57, 97, 98, 99, 100, 102, 103, 104, 105, 106, 107, 108, 109, 110, 112, 113, 114, 115, 118, 119, 120, 121, 122]⟩ : ByteArray) x3_1) = a0
          · rw [if_pos c5] at H
            have c5b0 : ((bt (⟨#[48, 49, 50, 51, 52, 53, 54, 55, 56, 57, 97, 98, 99, 100, 102, 103, 104, 105, 106, 107, 108, 109, 110, 112, 113, 114, 115, 118, 119, 120, 121, 122]⟩ : ByteArray) x3_1) == a0) = true := beq_iff_eq.mpr c5
            have c5b1 : ((bt (⟨#[48, 49, 50, 51, 52, 53, 54, 55, 56, 57, 97, 98, 99, 100, 102, 103, 104, 105, 106, 107, 108, 109, 110, 112, 113, 114, 115, 118, 119, 120, 121, 122]⟩ : ByteArray) x3_1) != a0) = false := bne_eq_false_iff_eq.mpr c5
            clear c5
            obtain rfl := Option.some.inj H
            have p4 : 0 ≤ (x3_1 : Int) := of_decide_eq_true (by first | (with_reducible assumption) | assumption)
            have q4 : x3_1 < (32 : Int) := of_decide_eq_true (by first | (with_reducible assumption) | assumption)
            have hx4 := bt_at (⟨#[48, 49, 50, 51, 52, 53, 54, 55, 56, 57, 97, 98, 99, 100, 102, 103, 104, 105, 106, 107, 108, 109, 110, 112, 113, 114, 115, 118, 119, 120, 121, 122]⟩ : ByteArray) x3_1
            replace p4 := eq_true p4
            replace q4 := eq_true q4
            go_wp2
            go_ret
            exact ⟨by first | rfl | (simp; done) | (simp [*]; done), by repeat (first | exact Drawn0.refl _ | apply Drawn0.step)⟩
          · rw [if_neg c5] at H
            have c5b0 : ((bt (⟨#[48, 49, 50, 51, 52, 53, 54, 55, 56, 57, 97, 98, 99, 100, 102, 103, 104, 105, 106, 107, 108, 109, 110, 112, 113, 114, 115, 118, 119, 120, 121, 122]⟩ : ByteArray) x3_1) == a0) = false := beq_eq_false_iff_ne.mpr c5
            have c5b1 : ((bt (⟨#[48, 49, 50, 51, 52, 53, 54, 55, 56, 57, 97, 98, 99, 100, 102, 103, 104, 105, 106, 107, 108, 109, 110, 112, 113, 114, 115, 118, 119, 120, 121, 122]⟩ : ByteArray) x3_1) != a0) = true := bne_iff_ne.mpr c5
            have H' := Aside0.mk H
            clear H
            have p4 : 0 ≤ (x3_1 : Int) := of_decide_eq_true (by first | (with_reducible assumption) | assumption)
            have q4 : x3_1 < (32 : Int) := of_decide_eq_true (by first | (with_reducible assumption) | assumption)
            have hx4 := bt_at (⟨#[48, 49, 50, 51, 52, 53, 54, 55, 56, 57, 97, 98, 99, 100, 102, 103, 104, 105, 106, 107, 108, 109, 110, 112, 113, 114, 115, 118, 119, 120, 121, 122]⟩ : ByteArray) x3_1
            replace p4 := eq_true p4
            replace q4 := eq_true q4
            go_wp2
            go_roundg k1
            case measure => have := HK1.out; omega
            case rel => exact ⟨(wrap64 (x3_1 + 1)), (by first | rfl | (simp; done) | (simp [*]; done)), H', ⟨by have := HK1.out; omega⟩, by repeat (first | exact Drawn0.refl _ | apply Drawn0.step)⟩
        · rw [if_neg c3] at H
          exact absurd H (by simp)
      · rw [if_neg c2] at H
        have c2b0 : decide (x3_1 < 32) = false := decide_eq_false c2
        clear c2
        obtain rfl := Option.some.inj H
        go_wp2
        go_ret
        exact ⟨by first | rfl | (simp; done) | (simp [*]; done), by repeat (first | exact Drawn0.refl _ | apply Drawn0.step)⟩

end Go.Proofs.Ytklinldidfdnjaa.PFnWordBack
