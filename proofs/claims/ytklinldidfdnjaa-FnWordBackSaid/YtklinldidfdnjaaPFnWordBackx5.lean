-- Laid by a program of this session: a turned copy of the kit's print, with contracts by hand beside.
import Derived.Test.YtklinldidfdnjaaPFnWordBackx0
import Derived.Test.YtklinldidfdnjaaPFnWordBackx2
namespace Go.Proofs.Ytklinldidfdnjaa.PFnWordBack
open Go.RowKit Go.Proofs.YtklinldidfdnjaaW.PrintWords Go.Proofs.YtklinldidfdnjaaW.PrintLast Go.Proofs.YtklinldidfdnjaaW.PrintMore
attribute [local go_sem] max2_int min2_int max_two min_two max_three min_three max_four min_four   -- for this text's walks alone
set_option linter.unusedVariables false
set_option linter.unusedSimpArgs false

/-! ### spec_l1Name: function 39 -/
mutual
def spec_l1Name.j0 : Nat → ByteArray → List Int → Int → Int → Option (ByteArray × Int × Int)
  | 0, _, _, _, _ => none
  | k + 1, x3, x1000, x1001, x1002 => (spec_l1Once.f x1000 x1001 x1002 40).bind fun bt182 => (if bt182.1 = true then (spec_l1Name.l0 k (⟨#[113]⟩ : ByteArray) x1000 bt182.2.1 bt182.2.2) else (some (x3, bt182.2.1, bt182.2.2)))
def spec_l1Name.l0 : Nat → ByteArray → List Int → Int → Int → Option (ByteArray × Int × Int)
  | 0, _, _, _, _ => none
  | k + 1, x3, x1000, x1001, x1002 => (spec_l1Below.f x1000 x1001 x1002 3).bind fun bt185 => (if (x3.size : Int) < (wrap64 (59 + bt185.1)) then (if (x3.size : Int) < 61 then (if x3.size + 1 ≤ 9223372036854775807 then (spec_l1Name.l0 k (x3 ++ (⟨#[113]⟩ : ByteArray)) x1000 bt185.2.1 bt185.2.2) else (none)) else (some (x3, bt185.2.1, bt185.2.2))) else (some (x3, bt185.2.1, bt185.2.2)))
end
def spec_l1Name.f (k : Nat) (s0_0 : List Int) (s0_1 : Int) (s0_2 : Int) : Option (ByteArray × Int × Int) := (some (([(⟨#[97]⟩ : ByteArray), (⟨#[98]⟩ : ByteArray), (⟨#[108, 105, 98]⟩ : ByteArray), (⟨#[116, 111, 111, 108]⟩ : ByteArray), (⟨#[97, 112, 112]⟩ : ByteArray), (⟨#[99, 111, 114, 101, 45, 50]⟩ : ByteArray), (⟨#[120, 95, 121]⟩ : ByteArray), (⟨#[122, 46, 115, 111]⟩ : ByteArray), (⟨#[110, 43, 49]⟩ : ByteArray)] : List ByteArray) : List ByteArray)).bind fun y162 => ((spec_l1Below.f s0_0 s0_1 s0_2 9).bind fun bt165 => (if 0 ≤ bt165.1 then (if bt165.1 < (y162.length : Int) then ((spec_l1Once.f s0_0 bt165.2.1 bt165.2.2 30).bind fun bt169 => (if bt169.1 = true then (if 61 ≤ 281474976710656 then ((some (([(⟨#[]⟩ : ByteArray), (⟨#[46, 97]⟩ : ByteArray), (⟨#[97, 32, 98]⟩ : ByteArray), (⟨#[97, 47, 98]⟩ : ByteArray), (⟨#[48]⟩ : ByteArray), strOfNums (List.replicate 61 0)] : List ByteArray) : List ByteArray)).bind fun y175 => ((spec_l1Below.f s0_0 bt169.2.1 bt169.2.2 6).bind fun bt178 => (if 0 ≤ bt178.1 then (if bt178.1 < (y175.length : Int) then (spec_l1Name.j0 k (rdOf ByteArray.empty y175 bt178.1) s0_0 bt178.2.1 bt178.2.2) else (none)) else (none)))) else (none)) else (spec_l1Name.j0 k (rdOf ByteArray.empty y162 bt165.1) s0_0 bt169.2.1 bt169.2.2))) else (none)) else (none)))
theorem spec_l1Name.mono_l : ∀ k, (∀ y0 y1 y2 y3, LeO (spec_l1Name.j0 k y0 y1 y2 y3) (spec_l1Name.j0 (k + 1) y0 y1 y2 y3)) ∧ (∀ y0 y1 y2 y3, LeO (spec_l1Name.l0 k y0 y1 y2 y3) (spec_l1Name.l0 (k + 1) y0 y1 y2 y3))
  | 0 => ⟨fun _ _ _ _ r h => by simp [spec_l1Name.j0] at h, fun _ _ _ _ r h => by simp [spec_l1Name.l0] at h⟩
  | k + 1 => by
    obtain ⟨ih0, ih1⟩ := spec_l1Name.mono_l k
    refine ⟨?_, ?_⟩
    · intro y0 y1 y2 y3
      unfold spec_l1Name.j0
      repeat' first
      | (with_reducible exact ih0 _ _ _ _)
      | (with_reducible exact ih1 _ _ _ _)
      | (with_reducible exact LeO.refl _)
      | (with_reducible exact LeO.none _)
      | (with_reducible refine LeO.ite ?_ ?_)
      | (with_reducible refine LeO.bind ?_ (fun _ => ?_))
      | exact ih0 _ _ _ _
      | exact ih1 _ _ _ _
      | exact LeO.none _
      | refine LeO.ite ?_ ?_
      | refine LeO.bind ?_ (fun _ => ?_)
    · intro y0 y1 y2 y3
      unfold spec_l1Name.l0
      repeat' first
      | (with_reducible exact ih0 _ _ _ _)
      | (with_reducible exact ih1 _ _ _ _)
      | (with_reducible exact LeO.refl _)
      | (with_reducible exact LeO.none _)
      | (with_reducible refine LeO.ite ?_ ?_)
      | (with_reducible refine LeO.bind ?_ (fun _ => ?_))
      | exact ih0 _ _ _ _
      | exact ih1 _ _ _ _
      | exact LeO.none _
      | refine LeO.ite ?_ ?_
      | refine LeO.bind ?_ (fun _ => ?_)
theorem spec_l1Name.mono : ∀ a0 a1 a2 k, LeO (spec_l1Name.f k a0 a1 a2) (spec_l1Name.f (k + 1) a0 a1 a2) := by
  intro a0 a1 a2 k
  obtain ⟨ih0, ih1⟩ := spec_l1Name.mono_l k
  unfold spec_l1Name.f
  repeat' first
      | (with_reducible exact ih0 _ _ _ _)
      | (with_reducible exact ih1 _ _ _ _)
      | (with_reducible exact LeO.refl _)
      | (with_reducible exact LeO.none _)
      | (with_reducible refine LeO.ite ?_ ?_)
      | (with_reducible refine LeO.bind ?_ (fun _ => ?_))
      | exact ih0 _ _ _ _
      | exact ih1 _ _ _ _
      | exact LeO.none _
      | refine LeO.ite ?_ ?_
      | refine LeO.bind ?_ (fun _ => ?_)
def spec_l1Name.T3 : Bool × List (List Nat × List Nat) := (true, [([], []), ([0], [0]), ([1], [1]), ([], []), ([3], [3]), ([2, 4], [2, 4]), ([5], [5]), ([6, 4, 0, 1, 2, 3, 4, 5, 6], [6])])
def spec_l1Name.B3 : List Nat := [0, 1, 3, 0, 8, 31, 63, 127]
theorem spec_l1Name.tab3 : rtab .any (opsOf Try.f39 3) = spec_l1Name.T3 := by kernel_rfl
theorem spec_l1Name.bits3 : waitsOk spec_l1Name.T3.2 spec_l1Name.B3 = true := by kernel_rfl
set_option maxHeartbeats 8000000 in
set_option maxRecDepth 100000 in
theorem spec_l1Name.calls (k : Nat) (g : Nat) (s0_0 : List Int) (s0_1 : Int) (s0_2 : Int) (r1 : ByteArray) (r2 : Int) (r3 : Int) (w0 w : World) (hI : IsS81 w0 w g s0_0 s0_1 s0_2) (hB : Below w0.heap.size w0 w) (h : spec_l1Name.f k s0_0 s0_1 s0_2 = some (r1, r2, r3)) :
    Calls Try.prog 39 #[.pointer (some ⟨g, 0, none⟩)] w fun e w' => e = .returned (.string r1) ∧ IsS81 w0 w' g s0_0 r2 r3 ∧ Below w0.heap.size w0 w' ∧ KeepBut w w' g none := by
  have HI0 := Aside0.mk hI
  have HK := Aside0.mk (KeepBut.refl w g none)
  have HL := Aside0.mk hB.size
  clear hI
  have HW0 := Aside0.mk hB.size
  have HB := Aside0.mk hB
  clear hB
  have H : ((some (([(⟨#[97]⟩ : ByteArray), (⟨#[98]⟩ : ByteArray), (⟨#[108, 105, 98]⟩ : ByteArray), (⟨#[116, 111, 111, 108]⟩ : ByteArray), (⟨#[97, 112, 112]⟩ : ByteArray), (⟨#[99, 111, 114, 101, 45, 50]⟩ : ByteArray), (⟨#[120, 95, 121]⟩ : ByteArray), (⟨#[122, 46, 115, 111]⟩ : ByteArray), (⟨#[110, 43, 49]⟩ : ByteArray)] : List ByteArray) : List ByteArray)).bind fun y162 => ((spec_l1Below.f s0_0 s0_1 s0_2 9).bind fun bt165 => (if 0 ≤ bt165.1 then (if bt165.1 < (y162.length : Int) then ((spec_l1Once.f s0_0 bt165.2.1 bt165.2.2 30).bind fun bt169 => (if bt169.1 = true then (if 61 ≤ 281474976710656 then ((some (([(⟨#[]⟩ : ByteArray), (⟨#[46, 97]⟩ : ByteArray), (⟨#[97, 32, 98]⟩ : ByteArray), (⟨#[97, 47, 98]⟩ : ByteArray), (⟨#[48]⟩ : ByteArray), strOfNums (List.replicate 61 0)] : List ByteArray) : List ByteArray)).bind fun y175 => ((spec_l1Below.f s0_0 bt169.2.1 bt169.2.2 6).bind fun bt178 => (if 0 ≤ bt178.1 then (if bt178.1 < (y175.length : Int) then (spec_l1Name.j0 k (rdOf ByteArray.empty y175 bt178.1) s0_0 bt178.2.1 bt178.2.2) else (none)) else (none)))) else (none)) else (spec_l1Name.j0 k (rdOf ByteArray.empty y162 bt165.1) s0_0 bt169.2.1 bt169.2.2))) else (none)) else (none)))) = some (r1, r2, r3) := h
  clear h
  obtain ⟨y162, hy162⟩ : ∃ y_ : List ByteArray, y_ = (([(⟨#[97]⟩ : ByteArray), (⟨#[98]⟩ : ByteArray), (⟨#[108, 105, 98]⟩ : ByteArray), (⟨#[116, 111, 111, 108]⟩ : ByteArray), (⟨#[97, 112, 112]⟩ : ByteArray), (⟨#[99, 111, 114, 101, 45, 50]⟩ : ByteArray), (⟨#[120, 95, 121]⟩ : ByteArray), (⟨#[122, 46, 115, 111]⟩ : ByteArray), (⟨#[110, 43, 49]⟩ : ByteArray)] : List ByteArray)) := ⟨_, rfl⟩
  replace H : ((spec_l1Below.f s0_0 s0_1 s0_2 9).bind fun bt165 => (if 0 ≤ bt165.1 then (if bt165.1 < (y162.length : Int) then ((spec_l1Once.f s0_0 bt165.2.1 bt165.2.2 30).bind fun bt169 => (if bt169.1 = true then (if 61 ≤ 281474976710656 then ((some (([(⟨#[]⟩ : ByteArray), (⟨#[46, 97]⟩ : ByteArray), (⟨#[97, 32, 98]⟩ : ByteArray), (⟨#[97, 47, 98]⟩ : ByteArray), (⟨#[48]⟩ : ByteArray), strOfNums (List.replicate 61 0)] : List ByteArray) : List ByteArray)).bind fun y175 => ((spec_l1Below.f s0_0 bt169.2.1 bt169.2.2 6).bind fun bt178 => (if 0 ≤ bt178.1 then (if bt178.1 < (y175.length : Int) then (spec_l1Name.j0 k (rdOf ByteArray.empty y175 bt178.1) s0_0 bt178.2.1 bt178.2.2) else (none)) else (none)))) else (none)) else (spec_l1Name.j0 k (rdOf ByteArray.empty y162 bt165.1) s0_0 bt169.2.1 bt169.2.2))) else (none)) else (none))) = some (r1, r2, r3) := by first | (rw [hy162]; with_reducible exact H) | (have H2_ := (Option.bind_some _ _).symm.trans H; rw [hy162]; with_reducible exact H2_) | (have H2_ := (Option.bind_some _ _).symm.trans H; with_reducible exact H2_) | with_reducible exact H | (rw [hy162]; exact H) | exact H
  have Ny162 := Aside0.mk hy162
  clear hy162
  replace H := Option.bind_eq_some_iff.mp H
  obtain ⟨⟨t165, t166, t167⟩, A20, H⟩ := H
  replace H : (if 0 ≤ t165 then (if t165 < (y162.length : Int) then ((spec_l1Once.f s0_0 t166 t167 30).bind fun bt169 => (if bt169.1 = true then (if 61 ≤ 281474976710656 then ((some (([(⟨#[]⟩ : ByteArray), (⟨#[46, 97]⟩ : ByteArray), (⟨#[97, 32, 98]⟩ : ByteArray), (⟨#[97, 47, 98]⟩ : ByteArray), (⟨#[48]⟩ : ByteArray), strOfNums (List.replicate 61 0)] : List ByteArray) : List ByteArray)).bind fun y175 => ((spec_l1Below.f s0_0 bt169.2.1 bt169.2.2 6).bind fun bt178 => (if 0 ≤ bt178.1 then (if bt178.1 < (y175.length : Int) then (spec_l1Name.j0 k (rdOf ByteArray.empty y175 bt178.1) s0_0 bt178.2.1 bt178.2.2) else (none)) else (none)))) else (none)) else (spec_l1Name.j0 k (rdOf ByteArray.empty y162 t165) s0_0 bt169.2.1 bt169.2.2))) else (none)) else (none)) = some (r1, r2, r3) := H
  have A2 := Aside0.mk A20
  clear A20
  by_cases c3 : 0 ≤ t165
  · rw [if_pos c3] at H
    have c3b0 : decide (0 ≤ t165) = true := decide_eq_true c3
    clear c3
    by_cases c4 : t165 < (y162.length : Int)
    · rw [if_pos c4] at H
      have c4b0 : decide (t165 < (y162.length : Int)) = true := decide_eq_true c4
      clear c4
      replace H := Option.bind_eq_some_iff.mp H
      obtain ⟨⟨t169, t170, t171⟩, A50, H⟩ := H
      replace H : (if t169 = true then (if 61 ≤ 281474976710656 then ((some (([(⟨#[]⟩ : ByteArray), (⟨#[46, 97]⟩ : ByteArray), (⟨#[97, 32, 98]⟩ : ByteArray), (⟨#[97, 47, 98]⟩ : ByteArray), (⟨#[48]⟩ : ByteArray), strOfNums (List.replicate 61 0)] : List ByteArray) : List ByteArray)).bind fun y175 => ((spec_l1Below.f s0_0 t170 t171 6).bind fun bt178 => (if 0 ≤ bt178.1 then (if bt178.1 < (y175.length : Int) then (spec_l1Name.j0 k (rdOf ByteArray.empty y175 bt178.1) s0_0 bt178.2.1 bt178.2.2) else (none)) else (none)))) else (none)) else (spec_l1Name.j0 k (rdOf ByteArray.empty y162 t165) s0_0 t170 t171)) = some (r1, r2, r3) := H
      have A5 := Aside0.mk A50
      clear A50
      have HC6 := Aside0.mk H
      clear H
      go_enter Try.func39, Try.ntmps39
      go_upto_if 10 with (first | ((with_reducible refine gate_dst (N := 4) rfl ?_); (try (refine gate_guard (by rfl) ?_; dsimp only)); refine Kd.R_lit Kd.string _ 9 ?hg (N := 4) ?hd (xs := ([(⟨#[97]⟩ : ByteArray), (⟨#[98]⟩ : ByteArray), (⟨#[108, 105, 98]⟩ : ByteArray), (⟨#[116, 111, 111, 108]⟩ : ByteArray), (⟨#[97, 112, 112]⟩ : ByteArray), (⟨#[99, 111, 114, 101, 45, 50]⟩ : ByteArray), (⟨#[120, 95, 121]⟩ : ByteArray), (⟨#[122, 46, 115, 111]⟩ : ByteArray), (⟨#[110, 43, 49]⟩ : ByteArray)] : List ByteArray)) (inner := [.string (⟨#[97]⟩ : ByteArray), .string (⟨#[98]⟩ : ByteArray), .string (⟨#[108, 105, 98]⟩ : ByteArray), .string (⟨#[116, 111, 111, 108]⟩ : ByteArray), .string (⟨#[97, 112, 112]⟩ : ByteArray), .string (⟨#[99, 111, 114, 101, 45, 50]⟩ : ByteArray), .string (⟨#[120, 95, 121]⟩ : ByteArray), .string (⟨#[122, 46, 115, 111]⟩ : ByteArray), .string (⟨#[110, 43, 49]⟩ : ByteArray)]) (ok := fun _ => True) (okp := fun _ => True) ?hr ?hp (fun _ hk => hk) trivial (Below.refl _ _) (Nat.le_refl _) (by simp) ?_; (case hd => rfl); (case hg => rfl); (case hr => first | (go_simp; done) | (go_simp; rfl)); (case hp => exact (Reps.one (show Kd.M Kd.string _ _ _ (⟨#[97]⟩ : ByteArray) [.string (⟨#[97]⟩ : ByteArray)] from rfl) (Reps.one (show Kd.M Kd.string _ _ _ (⟨#[98]⟩ : ByteArray) [.string (⟨#[98]⟩ : ByteArray)] from rfl) (Reps.one (show Kd.M Kd.string _ _ _ (⟨#[108, 105, 98]⟩ : ByteArray) [.string (⟨#[108, 105, 98]⟩ : ByteArray)] from rfl) (Reps.one (show Kd.M Kd.string _ _ _ (⟨#[116, 111, 111, 108]⟩ : ByteArray) [.string (⟨#[116, 111, 111, 108]⟩ : ByteArray)] from rfl) (Reps.one (show Kd.M Kd.string _ _ _ (⟨#[97, 112, 112]⟩ : ByteArray) [.string (⟨#[97, 112, 112]⟩ : ByteArray)] from rfl) (Reps.one (show Kd.M Kd.string _ _ _ (⟨#[99, 111, 114, 101, 45, 50]⟩ : ByteArray) [.string (⟨#[99, 111, 114, 101, 45, 50]⟩ : ByteArray)] from rfl) (Reps.one (show Kd.M Kd.string _ _ _ (⟨#[120, 95, 121]⟩ : ByteArray) [.string (⟨#[120, 95, 121]⟩ : ByteArray)] from rfl) (Reps.one (show Kd.M Kd.string _ _ _ (⟨#[122, 46, 115, 111]⟩ : ByteArray) [.string (⟨#[122, 46, 115, 111]⟩ : ByteArray)] from rfl) (Reps.one (show Kd.M Kd.string _ _ _ (⟨#[110, 43, 49]⟩ : ByteArray) [.string (⟨#[110, 43, 49]⟩ : ByteArray)] from rfl) (Reps.none _ _))))))))))); intro v163 w7 ho8 hb hg_ hnew_; clear hg_ hnew_; (first | rw [← Ny162.out] at ho8 | (simp only [Int.reduceToNat] at ho8; rw [← Ny162.out] at ho8)); have n0_ := Aside0.mk (Kd.R_lower ho8 (keep_size (w := w) (g := g) (row := none) (by repeat (first | (with_reducible first | exact HK.out | apply KeepBut.set_ | apply keep_drewN | apply keep_drew | apply keep_alloc) | exact HK.out)))); have n1_ := Aside0.mk (IsS81.below (by repeat (first | (with_reducible first | exact HI0.out | apply IsS81.alloc | apply IsS81.drewN | apply IsS81.drew | apply IsS81.set_1 | apply IsS81.set_2) | exact HI0.out)) hb); have n2_ := Aside0.mk (KeepBut.trans (by repeat (first | (with_reducible first | exact HK.out | apply KeepBut.set_ | apply keep_drewN | apply keep_drew | apply keep_alloc) | exact HK.out)) (KeepBut.of_below hb g none) (.inl rfl)); have n3_ := Aside0.mk (below_step (by repeat (first | (with_reducible first | exact HB.out | apply below_alloc | apply pw_below_drewN | apply below_drew1 | refine below_set ?_ (IsS81.ge HI0.out)) | exact HB.out)) hb); clear HI0; clear HK; clear HB; have HO164 := n0_; have HI0 := n1_; have HK := n2_; have HB := n3_; clear n0_ n1_ n2_ n3_; clear hb ho8) | ((with_reducible refine gate_callee (f := 37) rfl ?_); refine goesL_ (some 6) rfl rfl Try.func37 (by kernel_rfl) rfl #[.pointer (some ⟨g, 0, none⟩), .int .i64 9] rfl (by (try simp only [List.map_toArray, List.map_cons, List.map_nil]); first | done | rfl | (simp only [List.length_drop, List.length_take]; rfl)) ?_; (with_reducible refine (spec_l1Below.calls g s0_0 s0_1 s0_2 9 t165 t166 t167 w0 _ ?side1 ?side2 A2.out).mono ?_); (case side1 => repeat (first | (with_reducible first | exact HI0.out | apply IsS81.alloc | apply IsS81.drewN | apply IsS81.drew | apply IsS81.set_1 | apply IsS81.set_2) | exact HI0.out)); (case side2 => repeat (first | (with_reducible first | exact HB.out | apply below_alloc | apply pw_below_drewN | apply below_drew1 | refine below_set ?_ (IsS81.ge HI0.out)) | exact HB.out)); rintro e w9 ⟨rfl, hi, hb, hk⟩; refine ⟨_, rfl, ?_⟩; have n0_ := Aside0.mk (Kd.R_mono (Kd.R_keep (IsS81.apart (show IsS81 w0 _ g s0_0 s0_1 s0_2 from by repeat (first | (with_reducible first | exact HI0.out | apply IsS81.alloc | apply IsS81.drewN | apply IsS81.drew | apply IsS81.set_1 | apply IsS81.set_2) | exact HI0.out)) (by (with_reducible repeat (first | apply Kd.R_alloc | apply Kd.R_drewN | apply Kd.R_drew)); exact HO164.out) (by decide)) hk (fun _ h => h.2)) (fun _ h => h.1)); have n1_ := Aside0.mk (KeepBut.trans (by repeat (first | (with_reducible first | exact HK.out | apply KeepBut.set_ | apply keep_drewN | apply keep_drew | apply keep_alloc) | exact HK.out)) hk (.inl rfl)); have n2_ := Aside0.mk (hb); have n3_ := Aside0.mk (hi); clear HO164; clear HK; clear HB; clear HI0; have HO164 := n0_; have HK := n1_; have HB := n2_; have HI0 := n3_; clear n0_ n1_ n2_ n3_; (try clear hb); (try clear hb2); (try clear hk); (try clear hi); obtain ⟨Ao10, co10, eo10⟩ := Kd.R_slice HO164.out; subst eo10; have p168 : 0 ≤ (t165 : Int) := of_decide_eq_true (by first | (with_reducible assumption) | assumption); have q168 : t165 < (y162.length : Int) := of_decide_eq_true (by first | (with_reducible assumption) | assumption); obtain ⟨ad168, e168, hx168_0⟩ := Kd.at_string (Kd.R_reads' HO164.out).2.2 t165 p168 q168; cases e168; replace p168 := eq_true p168; replace q168 := eq_true q168) | ((with_reducible refine gate_callee (f := 36) rfl ?_); refine goesL_ (some 10) rfl rfl Try.func36 (by kernel_rfl) rfl #[.pointer (some ⟨g, 0, none⟩), .int .i64 30] rfl (by (try simp only [List.map_toArray, List.map_cons, List.map_nil]); first | done | rfl | (simp only [List.length_drop, List.length_take]; rfl)) ?_; (with_reducible refine (spec_l1Once.calls g s0_0 t166 t167 30 t169 t170 t171 w0 _ ?side1 ?side2 A5.out).mono ?_); (case side1 => repeat (first | (with_reducible first | exact HI0.out | apply IsS81.alloc | apply IsS81.drewN | apply IsS81.drew | apply IsS81.set_1 | apply IsS81.set_2) | exact HI0.out)); (case side2 => repeat (first | (with_reducible first | exact HB.out | apply below_alloc | apply pw_below_drewN | apply below_drew1 | refine below_set ?_ (IsS81.ge HI0.out)) | exact HB.out)); rintro e w11 ⟨rfl, hi, hb, hk⟩; refine ⟨_, rfl, ?_⟩; have n0_ := Aside0.mk (Kd.R_mono (Kd.R_keep (IsS81.apart (show IsS81 w0 _ g s0_0 t166 t167 from by repeat (first | (with_reducible first | exact HI0.out | apply IsS81.alloc | apply IsS81.drewN | apply IsS81.drew | apply IsS81.set_1 | apply IsS81.set_2) | exact HI0.out)) (by (with_reducible repeat (first | apply Kd.R_alloc | apply Kd.R_drewN | apply Kd.R_drew)); exact HO164.out) (by decide)) hk (fun _ h => h.2)) (fun _ h => h.1)); have n1_ := Aside0.mk (KeepBut.trans (by repeat (first | (with_reducible first | exact HK.out | apply KeepBut.set_ | apply keep_drewN | apply keep_drew | apply keep_alloc) | exact HK.out)) hk (.inl rfl)); have n2_ := Aside0.mk (hb); have n3_ := Aside0.mk (hi); clear HO164; clear HK; clear HB; clear HI0; have HO164 := n0_; have HK := n1_; have HB := n2_; have HI0 := n3_; clear n0_ n1_ n2_ n3_; (try clear hb); (try clear hb2); (try clear hk); (try clear hi)))
      (try simp only [Act.put, List.setIfInBounds_toArray, List.set_cons_zero, List.set_cons_succ])
      go_cut [3] (fun v3 wc => ∃ (kq : Nat) (x3_5 : ByteArray) (x1001_5 : Int) (x1002_5 : Int), v3 = .string x3_5 ∧ Aside0 (spec_l1Name.j0 kq x3_5 s0_0 x1001_5 x1002_5 = some (r1, r2, r3)) ∧ Aside0 (kq ≤ k) ∧ Aside0 (IsS81 w0 wc g s0_0 x1001_5 x1002_5) ∧ Aside0 (KeepBut w wc g none) ∧ Aside0 (Below w0.heap.size w0 wc))
      case first =>
        have H := HC6.out
        clear HC6
        by_cases c12 : t169 = true
        · subst c12
          have H1 : (if 61 ≤ 281474976710656 then ((some (([(⟨#[]⟩ : ByteArray), (⟨#[46, 97]⟩ : ByteArray), (⟨#[97, 32, 98]⟩ : ByteArray), (⟨#[97, 47, 98]⟩ : ByteArray), (⟨#[48]⟩ : ByteArray), strOfNums (List.replicate 61 0)] : List ByteArray) : List ByteArray)).bind fun y175 => ((spec_l1Below.f s0_0 t170 t171 6).bind fun bt178 => (if 0 ≤ bt178.1 then (if bt178.1 < (y175.length : Int) then (spec_l1Name.j0 k (rdOf ByteArray.empty y175 bt178.1) s0_0 bt178.2.1 bt178.2.2) else (none)) else (none)))) else (none)) = some (r1, r2, r3) := by rw [if_pos rfl] at H; exact H
          clear H
          have H := H1
          clear H1
          by_cases c13 : 61 ≤ 281474976710656
          · rw [if_pos c13] at H
            have c13b0 := eq_true c13
            have c13b1 : decide (61 ≤ 281474976710656) = true := decide_eq_true c13
            clear c13
            obtain ⟨y172, hy172⟩ : ∃ y_ : List Int, y_ = (List.replicate 61 0) := ⟨_, rfl⟩
            replace H : ((some (([(⟨#[]⟩ : ByteArray), (⟨#[46, 97]⟩ : ByteArray), (⟨#[97, 32, 98]⟩ : ByteArray), (⟨#[97, 47, 98]⟩ : ByteArray), (⟨#[48]⟩ : ByteArray), strOfNums y172] : List ByteArray) : List ByteArray)).bind fun y175 => ((spec_l1Below.f s0_0 t170 t171 6).bind fun bt178 => (if 0 ≤ bt178.1 then (if bt178.1 < (y175.length : Int) then (spec_l1Name.j0 k (rdOf ByteArray.empty y175 bt178.1) s0_0 bt178.2.1 bt178.2.2) else (none)) else (none)))) = some (r1, r2, r3) := by first | (rw [hy172]; with_reducible exact H) | (have H2_ := (Option.bind_some _ _).symm.trans H; rw [hy172]; with_reducible exact H2_) | (have H2_ := (Option.bind_some _ _).symm.trans H; with_reducible exact H2_) | with_reducible exact H | (rw [hy172]; exact H) | exact H
            have Ny172 := Aside0.mk hy172
            clear hy172
            obtain ⟨y175, hy175⟩ : ∃ y_ : List ByteArray, y_ = (([(⟨#[]⟩ : ByteArray), (⟨#[46, 97]⟩ : ByteArray), (⟨#[97, 32, 98]⟩ : ByteArray), (⟨#[97, 47, 98]⟩ : ByteArray), (⟨#[48]⟩ : ByteArray), strOfNums y172] : List ByteArray)) := ⟨_, rfl⟩
            replace H : ((spec_l1Below.f s0_0 t170 t171 6).bind fun bt178 => (if 0 ≤ bt178.1 then (if bt178.1 < (y175.length : Int) then (spec_l1Name.j0 k (rdOf ByteArray.empty y175 bt178.1) s0_0 bt178.2.1 bt178.2.2) else (none)) else (none))) = some (r1, r2, r3) := by first | (rw [hy175]; with_reducible exact H) | (have H2_ := (Option.bind_some _ _).symm.trans H; rw [hy175]; with_reducible exact H2_) | (have H2_ := (Option.bind_some _ _).symm.trans H; with_reducible exact H2_) | with_reducible exact H | (rw [hy175]; exact H) | exact H
            have Ny175 := Aside0.mk hy175
            clear hy175
            replace H := Option.bind_eq_some_iff.mp H
            obtain ⟨⟨t178, t179, t180⟩, A140, H⟩ := H
            replace H : (if 0 ≤ t178 then (if t178 < (y175.length : Int) then (spec_l1Name.j0 k (rdOf ByteArray.empty y175 t178) s0_0 t179 t180) else (none)) else (none)) = some (r1, r2, r3) := H
            have A14 := Aside0.mk A140
            clear A140
            by_cases c15 : 0 ≤ t178
            · rw [if_pos c15] at H
              have c15b0 : decide (0 ≤ t178) = true := decide_eq_true c15
              clear c15
              (first | rw [c15b0] | (simp only [i64_w, i32_w]; rw [c15b0]) | skip)
              by_cases c16 : t178 < (y175.length : Int)
              · rw [if_pos c16] at H
                have c16b0 : decide (t178 < (y175.length : Int)) = true := decide_eq_true c16
                clear c16
                have H' := Aside0.mk H
                clear H
                try go_wp2
                have pi181 : (0 ≤ (t178 : Int)) = True := eq_true (of_decide_eq_true (by first | (with_reducible assumption) | assumption))
                have qi181 : (t178 < (y175.length : Int)) = True := eq_true (of_decide_eq_true (by first | (with_reducible assumption) | assumption))
                have n0_ := Aside0.mk (Kd.R_drew HO164.out)
                have n1_ := Aside0.mk (IsS81.drew HI0.out)
                have n2_ := Aside0.mk (keep_drew HK.out)
                have n3_ := Aside0.mk (below_drew1 HB.out)
                clear HO164
                clear HI0
                clear HK
                clear HB
                have HO164 := n0_
                have HI0 := n1_
                have HK := n2_
                have HB := n3_
                clear n0_ n1_ n2_ n3_
                refine start_ (n := 8) (S := fun w' => True) (ds := []) #[false, false, false, false, false, false, false, false] (by kernel_rfl) rfl rfl trivial (fun hHeld => ?_); refine with_tabW spec_l1Name.tab3 spec_l1Name.bits3 (fun HT_ HW_ => ?_)
                generalize w11.drew = w17 at HO164 HI0 HK HB hHeld ⊢
                refine pure_ (i := 3) (N := some 14) (v := ?_) (a' := ?_) #[false, false, false, true, false, false, false, false] rfl rfl (any_of HT_.out (by kernel_rfl)) (fun _ _ _ h => h) (Or.inl ⟨by rfl, ?_⟩) ?_ ?_
                rotate_left
                · intro w'
                  go_simp
                  with_reducible rfl
                rotate_left
                · simp only [Act.put, List.setIfInBounds_toArray, List.set_cons_zero, List.set_cons_succ, i64_w, i32_w]
                  rfl
                refine join_ (σ := Value × Value × Addr) 3 #[true, true, true, true, true, false, false, false] (fun s_ => [(11, s_.1), (12, .string (strOfNums y172)), (13, s_.2.1), (15, .int .i64 t178)]) (fun s_ w' => (Kd.R Kd.string 9 w' w.heap.size (fun k_ => some k_ ≠ (s_.2.1 : Value).ownBlock) (.slice (some ad168) y162.length co10) y162) ∧ (Kd.R (Kd.int .u8) 5 w' w.heap.size (fun _ => True) s_.1 y172) ∧ (Kd.R Kd.string 9 w' w.heap.size (fun k_ => some k_ ≠ (.slice (some ad168) y162.length co10 : Value).ownBlock) s_.2.1 y175) ∧ (∃ c_, (s_.2.1 : Value) = .slice (some s_.2.2) y175.length c_) ∧ (IsS81 w0 w' g s0_0 t179 t180) ∧ (KeepBut w w' g none) ∧ (Below w0.heap.size w0 w')) ?_ ?_
                rotate_left
                · intro hCont
                  refine two_ (i := 0) (j := 4) (Ni := some 11) (Nj := some 15) #[true, false, false, true, false, false, false, false] #[false, false, false, true, true, false, false, false] rfl rfl rfl rfl (two_of HT_.out (by kernel_rfl)) (by decide) (by decide) (fun K hK => ?_) (fun K hK => ?_)
                  · skip
                    refine Kd.R_make_step (Kd.int .u8) _ 5 (by rfl) (N := 11) rfl 23 _ _ rfl 61 rfl rfl Try.underlying23 (.int .u8 0) 1 info5 rfl (by decide) (by omega) 0 (ok := fun _ => True) (okp := fun _ => True) rfl (fun _ hk => hk) trivial (by omega) (by omega) (Below.refl _ _) (Nat.le_refl _) ?_
                    intro v173 w18 ho19 hb hg_ hnew_
                    clear hg_ hnew_
                    (first | rw [← Ny172.out] at ho19 | (simp only [Int.reduceToNat] at ho19; rw [← Ny172.out] at ho19))
                    have n0_ := Aside0.mk (Kd.R_below (by (with_reducible repeat (first | apply Kd.R_alloc | apply Kd.R_drewN | apply Kd.R_drew)); exact HO164.out) hb)
                    have n1_ := Aside0.mk (Kd.R_lower ho19 (keep_size (w := w) (g := g) (row := none) (by repeat (first | (with_reducible first | exact HK.out | apply KeepBut.set_ | apply keep_drewN | apply keep_drew | apply keep_alloc) | exact HK.out))))
                    have n2_ := Aside0.mk (IsS81.below (by repeat (first | (with_reducible first | exact HI0.out | apply IsS81.alloc | apply IsS81.drewN | apply IsS81.drew | apply IsS81.set_1 | apply IsS81.set_2) | exact HI0.out)) hb)
                    have n3_ := Aside0.mk (KeepBut.trans (by repeat (first | (with_reducible first | exact HK.out | apply KeepBut.set_ | apply keep_drewN | apply keep_drew | apply keep_alloc) | exact HK.out)) (KeepBut.of_below hb g none) (.inl rfl))
                    have n4_ := Aside0.mk (below_step (by repeat (first | (with_reducible first | exact HB.out | apply below_alloc | apply pw_below_drewN | apply below_drew1 | refine below_set ?_ (IsS81.ge HI0.out)) | exact HB.out)) hb)
                    clear HO164
                    clear HI0
                    clear HK
                    clear HB
                    have HO164 := n0_
                    have HO174 := n1_
                    have HI0 := n2_
                    have HK := n3_
                    have HB := n4_
                    clear n0_ n1_ n2_ n3_ n4_
                    clear hb ho19
                    refine hK.out _ _ trivial (fun hHeld => ?_)
                    clear hK K
                    refine norm_ (a' := ?_) ?_ ?_
                    rotate_left
                    · show Act.put _ (some 11) _ = _
                      simp only [Act.put, List.setIfInBounds_toArray, List.set_cons_zero, List.set_cons_succ, i64_w, i32_w]
                      rfl
                    refine two_ (i := 1) (j := 4) (Ni := some 12) (Nj := some 15) #[true, true, false, true, false, false, false, false] #[true, false, false, true, true, false, false, false] rfl rfl rfl rfl (two_of HT_.out (by kernel_rfl)) (by decide) (by decide) (fun K hK => ?_) (fun K hK => ?_)
                    · skip
                      have hcv20 := own_string (P := Try.prog) Try.underlying23 Try.underlying5 Try.underlying9 (Kd.own_of_R HO174.out)
                      refine value_ (w1 := ?_) (v := ?_) (by rfl) rfl ?_ ?_
                      rotate_left 2
                      · go_simp
                        constructor
                        · rfl
                        · rfl
                      clear hcv20
                      refine hK.out _ _ trivial (fun hHeld => ?_)
                      clear hK K
                      refine norm_ (a' := ?_) ?_ ?_
                      rotate_left
                      · show Act.put _ (some 12) _ = _
                        simp only [Act.put, List.setIfInBounds_toArray, List.set_cons_zero, List.set_cons_succ, i64_w, i32_w]
                        rfl
                      refine two_ (i := 2) (j := 4) (Ni := some 13) (Nj := some 15) #[true, true, true, true, false, false, false, false] #[true, true, false, true, true, false, false, false] rfl rfl rfl rfl (two_of HT_.out (by kernel_rfl)) (by decide) (by decide) (fun K hK => ?_) (fun K hK => ?_)
                      · skip
                        refine Kd.R_lit_step Kd.string _ 9 ?hg (N := 13) ?hd (xs := ([(⟨#[]⟩ : ByteArray), (⟨#[46, 97]⟩ : ByteArray), (⟨#[97, 32, 98]⟩ : ByteArray), (⟨#[97, 47, 98]⟩ : ByteArray), (⟨#[48]⟩ : ByteArray), strOfNums y172] : List ByteArray)) (inner := [.string (⟨#[]⟩ : ByteArray), .string (⟨#[46, 97]⟩ : ByteArray), .string (⟨#[97, 32, 98]⟩ : ByteArray), .string (⟨#[97, 47, 98]⟩ : ByteArray), .string (⟨#[48]⟩ : ByteArray), .string (strOfNums y172)]) (ok := fun _ => True) (okp := fun _ => True) ?hr ?hp (fun _ hk => hk) trivial (Below.refl _ _) (Nat.le_refl _) (by simp) ?_; (case hd => rfl); (case hg => rfl); (case hr => first | (go_simp; done) | (go_simp; rfl)); (case hp => exact (Reps.one (show Kd.M Kd.string _ _ _ (⟨#[]⟩ : ByteArray) [.string (⟨#[]⟩ : ByteArray)] from rfl) (Reps.one (show Kd.M Kd.string _ _ _ (⟨#[46, 97]⟩ : ByteArray) [.string (⟨#[46, 97]⟩ : ByteArray)] from rfl) (Reps.one (show Kd.M Kd.string _ _ _ (⟨#[97, 32, 98]⟩ : ByteArray) [.string (⟨#[97, 32, 98]⟩ : ByteArray)] from rfl) (Reps.one (show Kd.M Kd.string _ _ _ (⟨#[97, 47, 98]⟩ : ByteArray) [.string (⟨#[97, 47, 98]⟩ : ByteArray)] from rfl) (Reps.one (show Kd.M Kd.string _ _ _ (⟨#[48]⟩ : ByteArray) [.string (⟨#[48]⟩ : ByteArray)] from rfl) (Reps.one (show Kd.M Kd.string _ _ _ (strOfNums y172) [.string (strOfNums y172)] from rfl) (Reps.none _ _))))))))
                        intro v176 w21 ho22 hb hg_ hnew_
                        clear hg_ hnew_
                        (first | rw [← Ny175.out] at ho22 | (simp only [Int.reduceToNat] at ho22; rw [← Ny175.out] at ho22))
                        have n0_ := Aside0.mk (Kd.R_elder' (by (with_reducible repeat (first | apply Kd.R_alloc | apply Kd.R_drewN | apply Kd.R_drew)); exact HO164.out) (Kd.R_base ho22) hb)
                        have n1_ := Aside0.mk (Kd.R_below (by (with_reducible repeat (first | apply Kd.R_alloc | apply Kd.R_drewN | apply Kd.R_drew)); exact HO174.out) hb)
                        have n2_ := Aside0.mk (Kd.R_lower (Kd.R_new' ho22 (Kd.R_lt (by (with_reducible repeat (first | apply Kd.R_alloc | apply Kd.R_drewN | apply Kd.R_drew)); exact HO164.out))) (keep_size (w := w) (g := g) (row := none) (by repeat (first | (with_reducible first | exact HK.out | apply KeepBut.set_ | apply keep_drewN | apply keep_drew | apply keep_alloc) | exact HK.out))))
                        have n3_ := Aside0.mk (IsS81.below (by repeat (first | (with_reducible first | exact HI0.out | apply IsS81.alloc | apply IsS81.drewN | apply IsS81.drew | apply IsS81.set_1 | apply IsS81.set_2) | exact HI0.out)) hb)
                        have n4_ := Aside0.mk (KeepBut.trans (by repeat (first | (with_reducible first | exact HK.out | apply KeepBut.set_ | apply keep_drewN | apply keep_drew | apply keep_alloc) | exact HK.out)) (KeepBut.of_below hb g none) (.inl rfl))
                        have n5_ := Aside0.mk (below_step (by repeat (first | (with_reducible first | exact HB.out | apply below_alloc | apply pw_below_drewN | apply below_drew1 | refine below_set ?_ (IsS81.ge HI0.out)) | exact HB.out)) hb)
                        clear HO164
                        clear HO174
                        clear HI0
                        clear HK
                        clear HB
                        have HO164 := n0_
                        have HO174 := n1_
                        have HO177 := n2_
                        have HI0 := n3_
                        have HK := n4_
                        have HB := n5_
                        clear n0_ n1_ n2_ n3_ n4_ n5_
                        clear hb ho22
                        obtain ⟨Ao23, co23, eo23⟩ := Kd.R_slice HO177.out
                        subst eo23
                        obtain ⟨ado23, fo23, _⟩ := Kd.at_string (Kd.R_reads' HO177.out).2.2 0 (by decide) (by rw [Ny175.out]; simp)
                        cases fo23
                        refine hK.out _ _ trivial (fun hHeld => ?_)
                        clear hK K
                        refine norm_ (a' := ?_) ?_ ?_
                        rotate_left
                        · show Act.put _ (some 13) _ = _
                          simp only [Act.put, List.setIfInBounds_toArray, List.set_cons_zero, List.set_cons_succ, i64_w, i32_w]
                          rfl
                        refine one_ (i := 4) (N := some 15) #[true, true, true, true, true, false, false, false] rfl rfl (one_of HT_.out (by kernel_rfl)) (by decide) (fun K hK => ?_)
                        refine goes_ Try.func37 (by kernel_rfl) rfl #[.pointer (some ⟨g, 0, none⟩), .int .i64 6] (by rfl) rfl rfl (by (try simp only [List.map_toArray, List.map_cons, List.map_nil]); first | done | rfl | (simp only [List.length_drop, List.length_take]; rfl)) ?_
                        with_reducible refine (spec_l1Below.calls g s0_0 t170 t171 6 t178 t179 t180 w0 _ ?side1 ?side2 A14.out).mono ?_
                        (case side1 => repeat (first | (with_reducible first | exact HI0.out | apply IsS81.alloc | apply IsS81.drewN | apply IsS81.drew | apply IsS81.set_1 | apply IsS81.set_2) | exact HI0.out))
                        (case side2 => repeat (first | (with_reducible first | exact HB.out | apply below_alloc | apply pw_below_drewN | apply below_drew1 | refine below_set ?_ (IsS81.ge HI0.out)) | exact HB.out))
                        rintro e w24 ⟨rfl, hi, hb, hk⟩
                        refine ⟨_, rfl, ?_⟩
                        have n0_ := Aside0.mk (Kd.R_mono (Kd.R_keep (IsS81.apart (show IsS81 w0 _ g s0_0 t170 t171 from by repeat (first | (with_reducible first | exact HI0.out | apply IsS81.alloc | apply IsS81.drewN | apply IsS81.drew | apply IsS81.set_1 | apply IsS81.set_2) | exact HI0.out)) (by (with_reducible repeat (first | apply Kd.R_alloc | apply Kd.R_drewN | apply Kd.R_drew)); exact HO164.out) (by decide)) hk (fun _ h => h.2)) (fun _ h => h.1))
                        have n1_ := Aside0.mk (Kd.R_mono (Kd.R_keep (IsS81.apart (show IsS81 w0 _ g s0_0 t170 t171 from by repeat (first | (with_reducible first | exact HI0.out | apply IsS81.alloc | apply IsS81.drewN | apply IsS81.drew | apply IsS81.set_1 | apply IsS81.set_2) | exact HI0.out)) (by (with_reducible repeat (first | apply Kd.R_alloc | apply Kd.R_drewN | apply Kd.R_drew)); exact HO174.out) (by decide)) hk (fun _ h => h.2)) (fun _ h => h.1))
                        have n2_ := Aside0.mk (Kd.R_mono (Kd.R_keep (IsS81.apart (show IsS81 w0 _ g s0_0 t170 t171 from by repeat (first | (with_reducible first | exact HI0.out | apply IsS81.alloc | apply IsS81.drewN | apply IsS81.drew | apply IsS81.set_1 | apply IsS81.set_2) | exact HI0.out)) (by (with_reducible repeat (first | apply Kd.R_alloc | apply Kd.R_drewN | apply Kd.R_drew)); exact HO177.out) (by decide)) hk (fun _ h => h.2)) (fun _ h => h.1))
                        have n3_ := Aside0.mk (KeepBut.trans (by repeat (first | (with_reducible first | exact HK.out | apply KeepBut.set_ | apply keep_drewN | apply keep_drew | apply keep_alloc) | exact HK.out)) hk (.inl rfl))
                        have n4_ := Aside0.mk (hb)
                        have n5_ := Aside0.mk (hi)
                        clear HO164
                        clear HO174
                        clear HO177
                        clear HK
                        clear HB
                        clear HI0
                        have HO164 := n0_
                        have HO174 := n1_
                        have HO177 := n2_
                        have HK := n3_
                        have HB := n4_
                        have HI0 := n5_
                        clear n0_ n1_ n2_ n3_ n4_ n5_
                        (try clear hb)
                        (try clear hb2)
                        (try clear hk)
                        (try clear hi)
                        refine hK.out _ _ trivial (fun hHeld => ?_)
                        clear hK K
                        refine norm_ (a' := ?_) ?_ ?_
                        rotate_left
                        · show Act.put _ (some 15) _ = _
                          simp only [Act.put, List.setIfInBounds_toArray, List.set_cons_zero, List.set_cons_succ, i64_w, i32_w]
                          rfl
                        exact norm_ (by simp only [putAll, Act.put, List.setIfInBounds_toArray, List.set_cons_zero, List.set_cons_succ]) (hCont (v173, .slice (some ado23) y175.length co23, ado23) _ ⟨(by (with_reducible repeat (first | apply Kd.R_alloc | apply Kd.R_drewN | apply Kd.R_drew)); exact Kd.R_mono HO164.out (fun _ hk => hk.2)), (by (with_reducible repeat (first | apply Kd.R_alloc | apply Kd.R_drewN | apply Kd.R_drew)); exact HO174.out), (by (with_reducible repeat (first | apply Kd.R_alloc | apply Kd.R_drewN | apply Kd.R_drew)); exact Kd.R_mono HO177.out (fun _ hk => hk.2)), ⟨_, rfl⟩, (by repeat (first | (with_reducible first | exact HI0.out | apply IsS81.alloc | apply IsS81.drewN | apply IsS81.drew | apply IsS81.set_1 | apply IsS81.set_2) | exact HI0.out)), (by repeat (first | (with_reducible first | exact HK.out | apply KeepBut.set_ | apply keep_drewN | apply keep_drew | apply keep_alloc) | exact HK.out)), (by repeat (first | (with_reducible first | exact HB.out | apply below_alloc | apply pw_below_drewN | apply below_drew1 | refine below_set ?_ (IsS81.ge HI0.out)) | exact HB.out))⟩)
                      · skip
                        refine goes_ Try.func37 (by kernel_rfl) rfl #[.pointer (some ⟨g, 0, none⟩), .int .i64 6] (by rfl) rfl rfl (by (try simp only [List.map_toArray, List.map_cons, List.map_nil]); first | done | rfl | (simp only [List.length_drop, List.length_take]; rfl)) ?_
                        with_reducible refine (spec_l1Below.calls g s0_0 t170 t171 6 t178 t179 t180 w0 _ ?side1 ?side2 A14.out).mono ?_
                        (case side1 => repeat (first | (with_reducible first | exact HI0.out | apply IsS81.alloc | apply IsS81.drewN | apply IsS81.drew | apply IsS81.set_1 | apply IsS81.set_2) | exact HI0.out))
                        (case side2 => repeat (first | (with_reducible first | exact HB.out | apply below_alloc | apply pw_below_drewN | apply below_drew1 | refine below_set ?_ (IsS81.ge HI0.out)) | exact HB.out))
                        rintro e w21 ⟨rfl, hi, hb, hk⟩
                        refine ⟨_, rfl, ?_⟩
                        have n0_ := Aside0.mk (Kd.R_mono (Kd.R_keep (IsS81.apart (show IsS81 w0 _ g s0_0 t170 t171 from by repeat (first | (with_reducible first | exact HI0.out | apply IsS81.alloc | apply IsS81.drewN | apply IsS81.drew | apply IsS81.set_1 | apply IsS81.set_2) | exact HI0.out)) (by (with_reducible repeat (first | apply Kd.R_alloc | apply Kd.R_drewN | apply Kd.R_drew)); exact HO164.out) (by decide)) hk (fun _ h => h.2)) (fun _ h => h.1))
                        have n1_ := Aside0.mk (Kd.R_mono (Kd.R_keep (IsS81.apart (show IsS81 w0 _ g s0_0 t170 t171 from by repeat (first | (with_reducible first | exact HI0.out | apply IsS81.alloc | apply IsS81.drewN | apply IsS81.drew | apply IsS81.set_1 | apply IsS81.set_2) | exact HI0.out)) (by (with_reducible repeat (first | apply Kd.R_alloc | apply Kd.R_drewN | apply Kd.R_drew)); exact HO174.out) (by decide)) hk (fun _ h => h.2)) (fun _ h => h.1))
                        have n2_ := Aside0.mk (KeepBut.trans (by repeat (first | (with_reducible first | exact HK.out | apply KeepBut.set_ | apply keep_drewN | apply keep_drew | apply keep_alloc) | exact HK.out)) hk (.inl rfl))
                        have n3_ := Aside0.mk (hb)
                        have n4_ := Aside0.mk (hi)
                        clear HO164
                        clear HO174
                        clear HK
                        clear HB
                        clear HI0
                        have HO164 := n0_
                        have HO174 := n1_
                        have HK := n2_
                        have HB := n3_
                        have HI0 := n4_
                        clear n0_ n1_ n2_ n3_ n4_
                        (try clear hb)
                        (try clear hb2)
                        (try clear hk)
                        (try clear hi)
                        refine hK.out _ _ trivial (fun hHeld => ?_)
                        clear hK K
                        refine norm_ (a' := ?_) ?_ ?_
                        rotate_left
                        · show Act.put _ (some 15) _ = _
                          simp only [Act.put, List.setIfInBounds_toArray, List.set_cons_zero, List.set_cons_succ, i64_w, i32_w]
                          rfl
                        refine one_ (i := 2) (N := some 13) #[true, true, true, true, true, false, false, false] rfl rfl (one_of HT_.out (by kernel_rfl)) (by decide) (fun K hK => ?_)
                        refine Kd.R_lit_step Kd.string _ 9 ?hg (N := 13) ?hd (xs := ([(⟨#[]⟩ : ByteArray), (⟨#[46, 97]⟩ : ByteArray), (⟨#[97, 32, 98]⟩ : ByteArray), (⟨#[97, 47, 98]⟩ : ByteArray), (⟨#[48]⟩ : ByteArray), strOfNums y172] : List ByteArray)) (inner := [.string (⟨#[]⟩ : ByteArray), .string (⟨#[46, 97]⟩ : ByteArray), .string (⟨#[97, 32, 98]⟩ : ByteArray), .string (⟨#[97, 47, 98]⟩ : ByteArray), .string (⟨#[48]⟩ : ByteArray), .string (strOfNums y172)]) (ok := fun _ => True) (okp := fun _ => True) ?hr ?hp (fun _ hk => hk) trivial (Below.refl _ _) (Nat.le_refl _) (by simp) ?_; (case hd => rfl); (case hg => rfl); (case hr => first | (go_simp; done) | (go_simp; rfl)); (case hp => exact (Reps.one (show Kd.M Kd.string _ _ _ (⟨#[]⟩ : ByteArray) [.string (⟨#[]⟩ : ByteArray)] from rfl) (Reps.one (show Kd.M Kd.string _ _ _ (⟨#[46, 97]⟩ : ByteArray) [.string (⟨#[46, 97]⟩ : ByteArray)] from rfl) (Reps.one (show Kd.M Kd.string _ _ _ (⟨#[97, 32, 98]⟩ : ByteArray) [.string (⟨#[97, 32, 98]⟩ : ByteArray)] from rfl) (Reps.one (show Kd.M Kd.string _ _ _ (⟨#[97, 47, 98]⟩ : ByteArray) [.string (⟨#[97, 47, 98]⟩ : ByteArray)] from rfl) (Reps.one (show Kd.M Kd.string _ _ _ (⟨#[48]⟩ : ByteArray) [.string (⟨#[48]⟩ : ByteArray)] from rfl) (Reps.one (show Kd.M Kd.string _ _ _ (strOfNums y172) [.string (strOfNums y172)] from rfl) (Reps.none _ _))))))))
                        intro v176 w22 ho23 hb hg_ hnew_
                        clear hg_ hnew_
                        (first | rw [← Ny175.out] at ho23 | (simp only [Int.reduceToNat] at ho23; rw [← Ny175.out] at ho23))
                        have n0_ := Aside0.mk (Kd.R_elder' (by (with_reducible repeat (first | apply Kd.R_alloc | apply Kd.R_drewN | apply Kd.R_drew)); exact HO164.out) (Kd.R_base ho23) hb)
                        have n1_ := Aside0.mk (Kd.R_below (by (with_reducible repeat (first | apply Kd.R_alloc | apply Kd.R_drewN | apply Kd.R_drew)); exact HO174.out) hb)
                        have n2_ := Aside0.mk (Kd.R_lower (Kd.R_new' ho23 (Kd.R_lt (by (with_reducible repeat (first | apply Kd.R_alloc | apply Kd.R_drewN | apply Kd.R_drew)); exact HO164.out))) (keep_size (w := w) (g := g) (row := none) (by repeat (first | (with_reducible first | exact HK.out | apply KeepBut.set_ | apply keep_drewN | apply keep_drew | apply keep_alloc) | exact HK.out))))
                        have n3_ := Aside0.mk (IsS81.below (by repeat (first | (with_reducible first | exact HI0.out | apply IsS81.alloc | apply IsS81.drewN | apply IsS81.drew | apply IsS81.set_1 | apply IsS81.set_2) | exact HI0.out)) hb)
                        have n4_ := Aside0.mk (KeepBut.trans (by repeat (first | (with_reducible first | exact HK.out | apply KeepBut.set_ | apply keep_drewN | apply keep_drew | apply keep_alloc) | exact HK.out)) (KeepBut.of_below hb g none) (.inl rfl))
                        have n5_ := Aside0.mk (below_step (by repeat (first | (with_reducible first | exact HB.out | apply below_alloc | apply pw_below_drewN | apply below_drew1 | refine below_set ?_ (IsS81.ge HI0.out)) | exact HB.out)) hb)
                        clear HO164
                        clear HO174
                        clear HI0
                        clear HK
                        clear HB
                        have HO164 := n0_
                        have HO174 := n1_
                        have HO177 := n2_
                        have HI0 := n3_
                        have HK := n4_
                        have HB := n5_
                        clear n0_ n1_ n2_ n3_ n4_ n5_
                        clear hb ho23
                        obtain ⟨Ao24, co24, eo24⟩ := Kd.R_slice HO177.out
                        subst eo24
                        obtain ⟨ado24, fo24, _⟩ := Kd.at_string (Kd.R_reads' HO177.out).2.2 0 (by decide) (by rw [Ny175.out]; simp)
                        cases fo24
                        refine hK.out _ _ trivial (fun hHeld => ?_)
                        clear hK K
                        refine norm_ (a' := ?_) ?_ ?_
                        rotate_left
                        · show Act.put _ (some 13) _ = _
                          simp only [Act.put, List.setIfInBounds_toArray, List.set_cons_zero, List.set_cons_succ, i64_w, i32_w]
                          rfl
                        exact norm_ (by simp only [putAll, Act.put, List.setIfInBounds_toArray, List.set_cons_zero, List.set_cons_succ]) (hCont (v173, .slice (some ado24) y175.length co24, ado24) _ ⟨(by (with_reducible repeat (first | apply Kd.R_alloc | apply Kd.R_drewN | apply Kd.R_drew)); exact Kd.R_mono HO164.out (fun _ hk => hk.2)), (by (with_reducible repeat (first | apply Kd.R_alloc | apply Kd.R_drewN | apply Kd.R_drew)); exact HO174.out), (by (with_reducible repeat (first | apply Kd.R_alloc | apply Kd.R_drewN | apply Kd.R_drew)); exact Kd.R_mono HO177.out (fun _ hk => hk.2)), ⟨_, rfl⟩, (by repeat (first | (with_reducible first | exact HI0.out | apply IsS81.alloc | apply IsS81.drewN | apply IsS81.drew | apply IsS81.set_1 | apply IsS81.set_2) | exact HI0.out)), (by repeat (first | (with_reducible first | exact HK.out | apply KeepBut.set_ | apply keep_drewN | apply keep_drew | apply keep_alloc) | exact HK.out)), (by repeat (first | (with_reducible first | exact HB.out | apply below_alloc | apply pw_below_drewN | apply below_drew1 | refine below_set ?_ (IsS81.ge HI0.out)) | exact HB.out))⟩)
                    · skip
                      refine goes_ Try.func37 (by kernel_rfl) rfl #[.pointer (some ⟨g, 0, none⟩), .int .i64 6] (by rfl) rfl rfl (by (try simp only [List.map_toArray, List.map_cons, List.map_nil]); first | done | rfl | (simp only [List.length_drop, List.length_take]; rfl)) ?_
                      with_reducible refine (spec_l1Below.calls g s0_0 t170 t171 6 t178 t179 t180 w0 _ ?side1 ?side2 A14.out).mono ?_
                      (case side1 => repeat (first | (with_reducible first | exact HI0.out | apply IsS81.alloc | apply IsS81.drewN | apply IsS81.drew | apply IsS81.set_1 | apply IsS81.set_2) | exact HI0.out))
                      (case side2 => repeat (first | (with_reducible first | exact HB.out | apply below_alloc | apply pw_below_drewN | apply below_drew1 | refine below_set ?_ (IsS81.ge HI0.out)) | exact HB.out))
                      rintro e w20 ⟨rfl, hi, hb, hk⟩
                      refine ⟨_, rfl, ?_⟩
                      have n0_ := Aside0.mk (Kd.R_mono (Kd.R_keep (IsS81.apart (show IsS81 w0 _ g s0_0 t170 t171 from by repeat (first | (with_reducible first | exact HI0.out | apply IsS81.alloc | apply IsS81.drewN | apply IsS81.drew | apply IsS81.set_1 | apply IsS81.set_2) | exact HI0.out)) (by (with_reducible repeat (first | apply Kd.R_alloc | apply Kd.R_drewN | apply Kd.R_drew)); exact HO164.out) (by decide)) hk (fun _ h => h.2)) (fun _ h => h.1))
                      have n1_ := Aside0.mk (Kd.R_mono (Kd.R_keep (IsS81.apart (show IsS81 w0 _ g s0_0 t170 t171 from by repeat (first | (with_reducible first | exact HI0.out | apply IsS81.alloc | apply IsS81.drewN | apply IsS81.drew | apply IsS81.set_1 | apply IsS81.set_2) | exact HI0.out)) (by (with_reducible repeat (first | apply Kd.R_alloc | apply Kd.R_drewN | apply Kd.R_drew)); exact HO174.out) (by decide)) hk (fun _ h => h.2)) (fun _ h => h.1))
                      have n2_ := Aside0.mk (KeepBut.trans (by repeat (first | (with_reducible first | exact HK.out | apply KeepBut.set_ | apply keep_drewN | apply keep_drew | apply keep_alloc) | exact HK.out)) hk (.inl rfl))
                      have n3_ := Aside0.mk (hb)
                      have n4_ := Aside0.mk (hi)
                      clear HO164
                      clear HO174
                      clear HK
                      clear HB
                      clear HI0
                      have HO164 := n0_
                      have HO174 := n1_
                      have HK := n2_
                      have HB := n3_
                      have HI0 := n4_
                      clear n0_ n1_ n2_ n3_ n4_
                      (try clear hb)
                      (try clear hb2)
                      (try clear hk)
                      (try clear hi)
                      refine hK.out _ _ trivial (fun hHeld => ?_)
                      clear hK K
                      refine norm_ (a' := ?_) ?_ ?_
                      rotate_left
                      · show Act.put _ (some 15) _ = _
                        simp only [Act.put, List.setIfInBounds_toArray, List.set_cons_zero, List.set_cons_succ, i64_w, i32_w]
                        rfl
                      refine one_ (i := 1) (N := some 12) #[true, true, false, true, true, false, false, false] rfl rfl (one_of HT_.out (by kernel_rfl)) (by decide) (fun K hK => ?_)
                      have hcv21 := own_string (P := Try.prog) Try.underlying23 Try.underlying5 Try.underlying9 (Kd.own_of_R HO174.out)
                      refine value_ (w1 := ?_) (v := ?_) (by rfl) rfl ?_ ?_
                      rotate_left 2
                      · go_simp
                        constructor
                        · rfl
                        · rfl
                      clear hcv21
                      refine hK.out _ _ trivial (fun hHeld => ?_)
                      clear hK K
                      refine norm_ (a' := ?_) ?_ ?_
                      rotate_left
                      · show Act.put _ (some 12) _ = _
                        simp only [Act.put, List.setIfInBounds_toArray, List.set_cons_zero, List.set_cons_succ, i64_w, i32_w]
                        rfl
                      refine one_ (i := 2) (N := some 13) #[true, true, true, true, true, false, false, false] rfl rfl (one_of HT_.out (by kernel_rfl)) (by decide) (fun K hK => ?_)
                      refine Kd.R_lit_step Kd.string _ 9 ?hg (N := 13) ?hd (xs := ([(⟨#[]⟩ : ByteArray), (⟨#[46, 97]⟩ : ByteArray), (⟨#[97, 32, 98]⟩ : ByteArray), (⟨#[97, 47, 98]⟩ : ByteArray), (⟨#[48]⟩ : ByteArray), strOfNums y172] : List ByteArray)) (inner := [.string (⟨#[]⟩ : ByteArray), .string (⟨#[46, 97]⟩ : ByteArray), .string (⟨#[97, 32, 98]⟩ : ByteArray), .string (⟨#[97, 47, 98]⟩ : ByteArray), .string (⟨#[48]⟩ : ByteArray), .string (strOfNums y172)]) (ok := fun _ => True) (okp := fun _ => True) ?hr ?hp (fun _ hk => hk) trivial (Below.refl _ _) (Nat.le_refl _) (by simp) ?_; (case hd => rfl); (case hg => rfl); (case hr => first | (go_simp; done) | (go_simp; rfl)); (case hp => exact (Reps.one (show Kd.M Kd.string _ _ _ (⟨#[]⟩ : ByteArray) [.string (⟨#[]⟩ : ByteArray)] from rfl) (Reps.one (show Kd.M Kd.string _ _ _ (⟨#[46, 97]⟩ : ByteArray) [.string (⟨#[46, 97]⟩ : ByteArray)] from rfl) (Reps.one (show Kd.M Kd.string _ _ _ (⟨#[97, 32, 98]⟩ : ByteArray) [.string (⟨#[97, 32, 98]⟩ : ByteArray)] from rfl) (Reps.one (show Kd.M Kd.string _ _ _ (⟨#[97, 47, 98]⟩ : ByteArray) [.string (⟨#[97, 47, 98]⟩ : ByteArray)] from rfl) (Reps.one (show Kd.M Kd.string _ _ _ (⟨#[48]⟩ : ByteArray) [.string (⟨#[48]⟩ : ByteArray)] from rfl) (Reps.one (show Kd.M Kd.string _ _ _ (strOfNums y172) [.string (strOfNums y172)] from rfl) (Reps.none _ _))))))))
                      intro v176 w22 ho23 hb hg_ hnew_
                      clear hg_ hnew_
                      (first | rw [← Ny175.out] at ho23 | (simp only [Int.reduceToNat] at ho23; rw [← Ny175.out] at ho23))
                      have n0_ := Aside0.mk (Kd.R_elder' (by (with_reducible repeat (first | apply Kd.R_alloc | apply Kd.R_drewN | apply Kd.R_drew)); exact HO164.out) (Kd.R_base ho23) hb)
                      have n1_ := Aside0.mk (Kd.R_below (by (with_reducible repeat (first | apply Kd.R_alloc | apply Kd.R_drewN | apply Kd.R_drew)); exact HO174.out) hb)
                      have n2_ := Aside0.mk (Kd.R_lower (Kd.R_new' ho23 (Kd.R_lt (by (with_reducible repeat (first | apply Kd.R_alloc | apply Kd.R_drewN | apply Kd.R_drew)); exact HO164.out))) (keep_size (w := w) (g := g) (row := none) (by repeat (first | (with_reducible first | exact HK.out | apply KeepBut.set_ | apply keep_drewN | apply keep_drew | apply keep_alloc) | exact HK.out))))
                      have n3_ := Aside0.mk (IsS81.below (by repeat (first | (with_reducible first | exact HI0.out | apply IsS81.alloc | apply IsS81.drewN | apply IsS81.drew | apply IsS81.set_1 | apply IsS81.set_2) | exact HI0.out)) hb)
                      have n4_ := Aside0.mk (KeepBut.trans (by repeat (first | (with_reducible first | exact HK.out | apply KeepBut.set_ | apply keep_drewN | apply keep_drew | apply keep_alloc) | exact HK.out)) (KeepBut.of_below hb g none) (.inl rfl))
                      have n5_ := Aside0.mk (below_step (by repeat (first | (with_reducible first | exact HB.out | apply below_alloc | apply pw_below_drewN | apply below_drew1 | refine below_set ?_ (IsS81.ge HI0.out)) | exact HB.out)) hb)
                      clear HO164
                      clear HO174
                      clear HI0
                      clear HK
                      clear HB
                      have HO164 := n0_
                      have HO174 := n1_
                      have HO177 := n2_
                      have HI0 := n3_
                      have HK := n4_
                      have HB := n5_
                      clear n0_ n1_ n2_ n3_ n4_ n5_
                      clear hb ho23
                      obtain ⟨Ao24, co24, eo24⟩ := Kd.R_slice HO177.out
                      subst eo24
                      obtain ⟨ado24, fo24, _⟩ := Kd.at_string (Kd.R_reads' HO177.out).2.2 0 (by decide) (by rw [Ny175.out]; simp)
                      cases fo24
                      refine hK.out _ _ trivial (fun hHeld => ?_)
                      clear hK K
                      refine norm_ (a' := ?_) ?_ ?_
                      rotate_left
                      · show Act.put _ (some 13) _ = _
                        simp only [Act.put, List.setIfInBounds_toArray, List.set_cons_zero, List.set_cons_succ, i64_w, i32_w]
                        rfl
                      exact norm_ (by simp only [putAll, Act.put, List.setIfInBounds_toArray, List.set_cons_zero, List.set_cons_succ]) (hCont (v173, .slice (some ado24) y175.length co24, ado24) _ ⟨(by (with_reducible repeat (first | apply Kd.R_alloc | apply Kd.R_drewN | apply Kd.R_drew)); exact Kd.R_mono HO164.out (fun _ hk => hk.2)), (by (with_reducible repeat (first | apply Kd.R_alloc | apply Kd.R_drewN | apply Kd.R_drew)); exact HO174.out), (by (with_reducible repeat (first | apply Kd.R_alloc | apply Kd.R_drewN | apply Kd.R_drew)); exact Kd.R_mono HO177.out (fun _ hk => hk.2)), ⟨_, rfl⟩, (by repeat (first | (with_reducible first | exact HI0.out | apply IsS81.alloc | apply IsS81.drewN | apply IsS81.drew | apply IsS81.set_1 | apply IsS81.set_2) | exact HI0.out)), (by repeat (first | (with_reducible first | exact HK.out | apply KeepBut.set_ | apply keep_drewN | apply keep_drew | apply keep_alloc) | exact HK.out)), (by repeat (first | (with_reducible first | exact HB.out | apply below_alloc | apply pw_below_drewN | apply below_drew1 | refine below_set ?_ (IsS81.ge HI0.out)) | exact HB.out))⟩)
                  · skip
                    refine goes_ Try.func37 (by kernel_rfl) rfl #[.pointer (some ⟨g, 0, none⟩), .int .i64 6] (by rfl) rfl rfl (by (try simp only [List.map_toArray, List.map_cons, List.map_nil]); first | done | rfl | (simp only [List.length_drop, List.length_take]; rfl)) ?_
                    with_reducible refine (spec_l1Below.calls g s0_0 t170 t171 6 t178 t179 t180 w0 _ ?side1 ?side2 A14.out).mono ?_
                    (case side1 => repeat (first | (with_reducible first | exact HI0.out | apply IsS81.alloc | apply IsS81.drewN | apply IsS81.drew | apply IsS81.set_1 | apply IsS81.set_2) | exact HI0.out))
                    (case side2 => repeat (first | (with_reducible first | exact HB.out | apply below_alloc | apply pw_below_drewN | apply below_drew1 | refine below_set ?_ (IsS81.ge HI0.out)) | exact HB.out))
                    rintro e w18 ⟨rfl, hi, hb, hk⟩
                    refine ⟨_, rfl, ?_⟩
                    have n0_ := Aside0.mk (Kd.R_mono (Kd.R_keep (IsS81.apart (show IsS81 w0 _ g s0_0 t170 t171 from by repeat (first | (with_reducible first | exact HI0.out | apply IsS81.alloc | apply IsS81.drewN | apply IsS81.drew | apply IsS81.set_1 | apply IsS81.set_2) | exact HI0.out)) (by (with_reducible repeat (first | apply Kd.R_alloc | apply Kd.R_drewN | apply Kd.R_drew)); exact HO164.out) (by decide)) hk (fun _ h => h.2)) (fun _ h => h.1))
                    have n1_ := Aside0.mk (KeepBut.trans (by repeat (first | (with_reducible first | exact HK.out | apply KeepBut.set_ | apply keep_drewN | apply keep_drew | apply keep_alloc) | exact HK.out)) hk (.inl rfl))
                    have n2_ := Aside0.mk (hb)
                    have n3_ := Aside0.mk (hi)
                    clear HO164
                    clear HK
                    clear HB
                    clear HI0
                    have HO164 := n0_
                    have HK := n1_
                    have HB := n2_
                    have HI0 := n3_
                    clear n0_ n1_ n2_ n3_
                    (try clear hb)
                    (try clear hb2)
                    (try clear hk)
                    (try clear hi)
                    refine hK.out _ _ trivial (fun hHeld => ?_)
                    clear hK K
                    refine norm_ (a' := ?_) ?_ ?_
                    rotate_left
                    · show Act.put _ (some 15) _ = _
                      simp only [Act.put, List.setIfInBounds_toArray, List.set_cons_zero, List.set_cons_succ, i64_w, i32_w]
                      rfl
                    refine one_ (i := 0) (N := some 11) #[true, false, false, true, true, false, false, false] rfl rfl (one_of HT_.out (by kernel_rfl)) (by decide) (fun K hK => ?_)
                    refine Kd.R_make_step (Kd.int .u8) _ 5 (by rfl) (N := 11) rfl 23 _ _ rfl 61 rfl rfl Try.underlying23 (.int .u8 0) 1 info5 rfl (by decide) (by omega) 0 (ok := fun _ => True) (okp := fun _ => True) rfl (fun _ hk => hk) trivial (by omega) (by omega) (Below.refl _ _) (Nat.le_refl _) ?_
                    intro v173 w19 ho20 hb hg_ hnew_
                    clear hg_ hnew_
                    (first | rw [← Ny172.out] at ho20 | (simp only [Int.reduceToNat] at ho20; rw [← Ny172.out] at ho20))
                    have n0_ := Aside0.mk (Kd.R_below (by (with_reducible repeat (first | apply Kd.R_alloc | apply Kd.R_drewN | apply Kd.R_drew)); exact HO164.out) hb)
                    have n1_ := Aside0.mk (Kd.R_lower ho20 (keep_size (w := w) (g := g) (row := none) (by repeat (first | (with_reducible first | exact HK.out | apply KeepBut.set_ | apply keep_drewN | apply keep_drew | apply keep_alloc) | exact HK.out))))
                    have n2_ := Aside0.mk (IsS81.below (by repeat (first | (with_reducible first | exact HI0.out | apply IsS81.alloc | apply IsS81.drewN | apply IsS81.drew | apply IsS81.set_1 | apply IsS81.set_2) | exact HI0.out)) hb)
                    have n3_ := Aside0.mk (KeepBut.trans (by repeat (first | (with_reducible first | exact HK.out | apply KeepBut.set_ | apply keep_drewN | apply keep_drew | apply keep_alloc) | exact HK.out)) (KeepBut.of_below hb g none) (.inl rfl))
                    have n4_ := Aside0.mk (below_step (by repeat (first | (with_reducible first | exact HB.out | apply below_alloc | apply pw_below_drewN | apply below_drew1 | refine below_set ?_ (IsS81.ge HI0.out)) | exact HB.out)) hb)
                    clear HO164
                    clear HI0
                    clear HK
                    clear HB
                    have HO164 := n0_
                    have HO174 := n1_
                    have HI0 := n2_
                    have HK := n3_
                    have HB := n4_
                    clear n0_ n1_ n2_ n3_ n4_
                    clear hb ho20
                    refine hK.out _ _ trivial (fun hHeld => ?_)
                    clear hK K
                    refine norm_ (a' := ?_) ?_ ?_
                    rotate_left
                    · show Act.put _ (some 11) _ = _
                      simp only [Act.put, List.setIfInBounds_toArray, List.set_cons_zero, List.set_cons_succ, i64_w, i32_w]
                      rfl
                    refine one_ (i := 1) (N := some 12) #[true, true, false, true, true, false, false, false] rfl rfl (one_of HT_.out (by kernel_rfl)) (by decide) (fun K hK => ?_)
                    have hcv21 := own_string (P := Try.prog) Try.underlying23 Try.underlying5 Try.underlying9 (Kd.own_of_R HO174.out)
                    refine value_ (w1 := ?_) (v := ?_) (by rfl) rfl ?_ ?_
                    rotate_left 2
                    · go_simp
                      constructor
                      · rfl
                      · rfl
                    clear hcv21
                    refine hK.out _ _ trivial (fun hHeld => ?_)
                    clear hK K
                    refine norm_ (a' := ?_) ?_ ?_
                    rotate_left
                    · show Act.put _ (some 12) _ = _
                      simp only [Act.put, List.setIfInBounds_toArray, List.set_cons_zero, List.set_cons_succ, i64_w, i32_w]
                      rfl
                    refine one_ (i := 2) (N := some 13) #[true, true, true, true, true, false, false, false] rfl rfl (one_of HT_.out (by kernel_rfl)) (by decide) (fun K hK => ?_)
                    refine Kd.R_lit_step Kd.string _ 9 ?hg (N := 13) ?hd (xs := ([(⟨#[]⟩ : ByteArray), (⟨#[46, 97]⟩ : ByteArray), (⟨#[97, 32, 98]⟩ : ByteArray), (⟨#[97, 47, 98]⟩ : ByteArray), (⟨#[48]⟩ : ByteArray), strOfNums y172] : List ByteArray)) (inner := [.string (⟨#[]⟩ : ByteArray), .string (⟨#[46, 97]⟩ : ByteArray), .string (⟨#[97, 32, 98]⟩ : ByteArray), .string (⟨#[97, 47, 98]⟩ : ByteArray), .string (⟨#[48]⟩ : ByteArray), .string (strOfNums y172)]) (ok := fun _ => True) (okp := fun _ => True) ?hr ?hp (fun _ hk => hk) trivial (Below.refl _ _) (Nat.le_refl _) (by simp) ?_; (case hd => rfl); (case hg => rfl); (case hr => first | (go_simp; done) | (go_simp; rfl)); (case hp => exact (Reps.one (show Kd.M Kd.string _ _ _ (⟨#[]⟩ : ByteArray) [.string (⟨#[]⟩ : ByteArray)] from rfl) (Reps.one (show Kd.M Kd.string _ _ _ (⟨#[46, 97]⟩ : ByteArray) [.string (⟨#[46, 97]⟩ : ByteArray)] from rfl) (Reps.one (show Kd.M Kd.string _ _ _ (⟨#[97, 32, 98]⟩ : ByteArray) [.string (⟨#[97, 32, 98]⟩ : ByteArray)] from rfl) (Reps.one (show Kd.M Kd.string _ _ _ (⟨#[97, 47, 98]⟩ : ByteArray) [.string (⟨#[97, 47, 98]⟩ : ByteArray)] from rfl) (Reps.one (show Kd.M Kd.string _ _ _ (⟨#[48]⟩ : ByteArray) [.string (⟨#[48]⟩ : ByteArray)] from rfl) (Reps.one (show Kd.M Kd.string _ _ _ (strOfNums y172) [.string (strOfNums y172)] from rfl) (Reps.none _ _))))))))
                    intro v176 w22 ho23 hb hg_ hnew_
                    clear hg_ hnew_
                    (first | rw [← Ny175.out] at ho23 | (simp only [Int.reduceToNat] at ho23; rw [← Ny175.out] at ho23))
                    have n0_ := Aside0.mk (Kd.R_elder' (by (with_reducible repeat (first | apply Kd.R_alloc | apply Kd.R_drewN | apply Kd.R_drew)); exact HO164.out) (Kd.R_base ho23) hb)
                    have n1_ := Aside0.mk (Kd.R_below (by (with_reducible repeat (first | apply Kd.R_alloc | apply Kd.R_drewN | apply Kd.R_drew)); exact HO174.out) hb)
                    have n2_ := Aside0.mk (Kd.R_lower (Kd.R_new' ho23 (Kd.R_lt (by (with_reducible repeat (first | apply Kd.R_alloc | apply Kd.R_drewN | apply Kd.R_drew)); exact HO164.out))) (keep_size (w := w) (g := g) (row := none) (by repeat (first | (with_reducible first | exact HK.out | apply KeepBut.set_ | apply keep_drewN | apply keep_drew | apply keep_alloc) | exact HK.out))))
                    have n3_ := Aside0.mk (IsS81.below (by repeat (first | (with_reducible first | exact HI0.out | apply IsS81.alloc | apply IsS81.drewN | apply IsS81.drew | apply IsS81.set_1 | apply IsS81.set_2) | exact HI0.out)) hb)
                    have n4_ := Aside0.mk (KeepBut.trans (by repeat (first | (with_reducible first | exact HK.out | apply KeepBut.set_ | apply keep_drewN | apply keep_drew | apply keep_alloc) | exact HK.out)) (KeepBut.of_below hb g none) (.inl rfl))
                    have n5_ := Aside0.mk (below_step (by repeat (first | (with_reducible first | exact HB.out | apply below_alloc | apply pw_below_drewN | apply below_drew1 | refine below_set ?_ (IsS81.ge HI0.out)) | exact HB.out)) hb)
                    clear HO164
                    clear HO174
                    clear HI0
                    clear HK
                    clear HB
                    have HO164 := n0_
                    have HO174 := n1_
                    have HO177 := n2_
                    have HI0 := n3_
                    have HK := n4_
                    have HB := n5_
                    clear n0_ n1_ n2_ n3_ n4_ n5_
                    clear hb ho23
                    obtain ⟨Ao24, co24, eo24⟩ := Kd.R_slice HO177.out
                    subst eo24
                    obtain ⟨ado24, fo24, _⟩ := Kd.at_string (Kd.R_reads' HO177.out).2.2 0 (by decide) (by rw [Ny175.out]; simp)
                    cases fo24
                    refine hK.out _ _ trivial (fun hHeld => ?_)
                    clear hK K
                    refine norm_ (a' := ?_) ?_ ?_
                    rotate_left
                    · show Act.put _ (some 13) _ = _
                      simp only [Act.put, List.setIfInBounds_toArray, List.set_cons_zero, List.set_cons_succ, i64_w, i32_w]
                      rfl
                    exact norm_ (by simp only [putAll, Act.put, List.setIfInBounds_toArray, List.set_cons_zero, List.set_cons_succ]) (hCont (v173, .slice (some ado24) y175.length co24, ado24) _ ⟨(by (with_reducible repeat (first | apply Kd.R_alloc | apply Kd.R_drewN | apply Kd.R_drew)); exact Kd.R_mono HO164.out (fun _ hk => hk.2)), (by (with_reducible repeat (first | apply Kd.R_alloc | apply Kd.R_drewN | apply Kd.R_drew)); exact HO174.out), (by (with_reducible repeat (first | apply Kd.R_alloc | apply Kd.R_drewN | apply Kd.R_drew)); exact Kd.R_mono HO177.out (fun _ hk => hk.2)), ⟨_, rfl⟩, (by repeat (first | (with_reducible first | exact HI0.out | apply IsS81.alloc | apply IsS81.drewN | apply IsS81.drew | apply IsS81.set_1 | apply IsS81.set_2) | exact HI0.out)), (by repeat (first | (with_reducible first | exact HK.out | apply KeepBut.set_ | apply keep_drewN | apply keep_drew | apply keep_alloc) | exact HK.out)), (by repeat (first | (with_reducible first | exact HB.out | apply below_alloc | apply pw_below_drewN | apply below_drew1 | refine below_set ?_ (IsS81.ge HI0.out)) | exact HB.out))⟩)
                rintro ⟨v173, v176, adz_v176⟩ w25 ⟨h0_, h1_, h2_, h3_, h4_, h5_, h6_⟩
                have n0_ : Aside0 (Kd.R Kd.string 9 w25 w.heap.size (fun k_ => some k_ ≠ (v176 : Value).ownBlock) (.slice (some ad168) y162.length co10) y162) := ⟨h0_⟩
                have n1_ : Aside0 (Kd.R (Kd.int .u8) 5 w25 w.heap.size (fun _ => True) v173 y172) := ⟨h1_⟩
                have n2_ : Aside0 (Kd.R Kd.string 9 w25 w.heap.size (fun k_ => some k_ ≠ (.slice (some ad168) y162.length co10 : Value).ownBlock) v176 y175) := ⟨h2_⟩
                have n3_ : Aside0 (∃ c_, (v176 : Value) = .slice (some adz_v176) y175.length c_) := ⟨h3_⟩
                have n4_ : Aside0 (IsS81 w0 w25 g s0_0 t179 t180) := ⟨h4_⟩
                have n5_ : Aside0 (KeepBut w w25 g none) := ⟨h5_⟩
                have n6_ : Aside0 (Below w0.heap.size w0 w25) := ⟨h6_⟩
                clear HO164
                clear HI0
                clear HK
                clear HB
                clear h0_ h1_ h2_ h3_ h4_ h5_ h6_
                have HO164 := n0_
                have HO174 := n1_
                have HO177 := n2_
                have HA_HO177 := n3_
                have HI0 := n4_
                have HK := n5_
                have HB := n6_
                clear n0_ n1_ n2_ n3_ n4_ n5_ n6_
                have hHeld := trivial
                obtain ⟨co26, eo26⟩ := HA_HO177.out
                clear HA_HO177
                subst eo26
                refine norm_ (a' := ?_) ?_ ?_
                rotate_left
                · simp only [putAll, Act.put, List.setIfInBounds_toArray, List.set_cons_zero, List.set_cons_succ]
                  rfl
                refine pure_ (i := 5) (N := some 16) (v := ?_) (a' := ?_) #[true, true, true, true, true, true, false, false] rfl rfl (any_of HT_.out (by kernel_rfl)) (fun _ _ _ h => h) (Or.inl ⟨by rfl, ?_⟩) ?_ ?_
                rotate_left
                · intro w'
                  go_simp
                  with_reducible rfl
                rotate_left
                · simp only [Act.put, List.setIfInBounds_toArray, List.set_cons_zero, List.set_cons_succ, i64_w, i32_w]
                  rfl
                refine one_ (i := 6) (N := some 17) #[true, true, true, true, true, true, true, false] rfl rfl (one_of HT_.out (by kernel_rfl)) (by decide) (fun K hK => ?_)
                (have p181 : 0 ≤ (t178 : Int) := of_decide_eq_true (by first | (with_reducible assumption) | assumption); have q181 : t178 < (y175.length : Int) := of_decide_eq_true (by first | (with_reducible assumption) | assumption); obtain ⟨ad181, e181, hx181_0⟩ := Kd.at_string (Kd.R_reads' HO177.out).2.2 t178 p181 q181; obtain rfl : adz_v176 = ad181 := (by injection e181))
                refine value_ (w1 := ?_) (v := ?_) (by rfl) rfl ?_ ?_
                rotate_left 2
                · go_simp
                  constructor
                  · rfl
                  · rfl
                clear hx181_0
                refine hK.out _ _ trivial (fun hHeld => ?_)
                clear hK K
                refine norm_ (a' := ?_) ?_ ?_
                rotate_left
                · show Act.put _ (some 17) _ = _
                  simp only [Act.put, List.setIfInBounds_toArray, List.set_cons_zero, List.set_cons_succ, i64_w, i32_w]
                  rfl
                refine pure_ (i := 7) (N := some 3) (v := ?_) (a' := ?_) #[true, true, true, true, true, true, true, true] rfl rfl (any_of HT_.out (by kernel_rfl)) (fun _ _ _ h => h) (Or.inl ⟨by rfl, ?_⟩) ?_ ?_
                rotate_left
                · intro w'
                  go_simp
                  with_reducible rfl
                rotate_left
                · simp only [Act.put, List.setIfInBounds_toArray, List.set_cons_zero, List.set_cons_succ, i64_w, i32_w]
                  rfl
                refine done_ (done_of HT_.out (by kernel_rfl)) ?_
                try go_wp2
                go_meet
                case rel => exact ⟨_, (rdOf ByteArray.empty y175 t178), (t179), (t180), (by first | rfl | (simp; done) | (simp [*]; done)), H', ⟨by first | omega | exact Nat.le_refl _⟩, ⟨by repeat (first | (with_reducible first | exact HI0.out | apply IsS81.alloc | apply IsS81.drewN | apply IsS81.drew | apply IsS81.set_1 | apply IsS81.set_2) | exact HI0.out)⟩, ⟨by repeat (first | (with_reducible first | exact HK.out | apply KeepBut.set_ | apply keep_drewN | apply keep_drew | apply keep_alloc) | exact HK.out)⟩, ⟨by repeat (first | (with_reducible first | exact HB.out | apply below_alloc | apply pw_below_drewN | apply below_drew1 | refine below_set ?_ (IsS81.ge HI0.out)) | exact HB.out)⟩⟩
              · rw [if_neg c16] at H
                exact absurd H (by simp)
            · rw [if_neg c15] at H
              exact absurd H (by simp)
          · rw [if_neg c13] at H
            exact absurd H (by simp)
        · replace c12 := Bool.eq_false_iff.mpr c12
          subst c12
          have H1 : (spec_l1Name.j0 k (rdOf ByteArray.empty y162 t165) s0_0 t170 t171) = some (r1, r2, r3) := by rw [if_neg (show ¬ (false = true) by decide)] at H; exact H
          clear H
          have H := H1
          clear H1
          have H' := Aside0.mk H
          clear H
          go_wp2
          go_meet
          case rel => exact ⟨_, (rdOf ByteArray.empty y162 t165), (t170), (t171), (by first | rfl | (simp; done) | (simp [*]; done)), H', ⟨by first | omega | exact Nat.le_refl _⟩, ⟨by repeat (first | (with_reducible first | exact HI0.out | apply IsS81.alloc | apply IsS81.drewN | apply IsS81.drew | apply IsS81.set_1 | apply IsS81.set_2) | exact HI0.out)⟩, ⟨by repeat (first | (with_reducible first | exact HK.out | apply KeepBut.set_ | apply keep_drewN | apply keep_drew | apply keep_alloc) | exact HK.out)⟩, ⟨by repeat (first | (with_reducible first | exact HB.out | apply below_alloc | apply pw_below_drewN | apply below_drew1 | refine below_set ?_ (IsS81.ge HI0.out)) | exact HB.out)⟩⟩
      case rest =>
        clear HC6
        try clear c1
        try clear p1
        try clear q1
        try clear hx1
        try clear qi1
        try clear p2
        try clear hcv2
        try clear c3
        try clear c3b0
        try clear c4
        try clear c4b0
        try clear c12
        try clear c13
        try clear c13b0
        try clear c13b1
        try clear c15
        try clear c15b0
        try clear c16
        try clear c16b0
        try clear p16
        try clear q16
        try clear hx16
        try clear p18
        try clear q18
        try clear hx18
        try clear qi18
        try clear hcv20
        try clear hcv21
        try clear hx168_0
        try clear hx181_0
        try clear p168
        try clear p181
        try clear q168
        try clear q181
        obtain ⟨kq, x3_5, x1001_5, x1002_5, rfl, HA, HJ5, HI0, HK, HB⟩ := hcut
        cases kq with
        | zero => exact absurd HA.out (by simp [spec_l1Name.j0])
        | succ kj5 =>
          have H := HA.out
          clear HA
          simp only [spec_l1Name.j0] at H
          replace H := Option.bind_eq_some_iff.mp H
          obtain ⟨⟨t182, t183, t184⟩, A270, H⟩ := H
          replace H : (if t182 = true then (spec_l1Name.l0 kj5 (⟨#[113]⟩ : ByteArray) s0_0 t183 t184) else (some (x3_5, t183, t184))) = some (r1, r2, r3) := H
          have A27 := Aside0.mk A270
          clear A270
          by_cases c28 : t182 = true
          · subst c28
            have H1 : (spec_l1Name.l0 kj5 (⟨#[113]⟩ : ByteArray) s0_0 t183 t184) = some (r1, r2, r3) := by rw [if_pos rfl] at H; exact H
            clear H
            have H := H1
            clear H1
            have H' := Aside0.mk H
            clear H
            go_wp2_with (first | ((with_reducible refine gate_callee (f := 36) rfl ?_); refine goesL_ (some 19) rfl rfl Try.func36 (by kernel_rfl) rfl #[.pointer (some ⟨g, 0, none⟩), .int .i64 40] rfl (by (try simp only [List.map_toArray, List.map_cons, List.map_nil]); first | done | rfl | (simp only [List.length_drop, List.length_take]; rfl)) ?_; (with_reducible refine (spec_l1Once.calls g s0_0 x1001_5 x1002_5 40 true t183 t184 w0 _ ?side1 ?side2 A27.out).mono ?_); (case side1 => repeat (first | (with_reducible first | exact HI0.out | apply IsS81.alloc | apply IsS81.drewN | apply IsS81.drew | apply IsS81.set_1 | apply IsS81.set_2) | exact HI0.out)); (case side2 => repeat (first | (with_reducible first | exact HB.out | apply below_alloc | apply pw_below_drewN | apply below_drew1 | refine below_set ?_ (IsS81.ge HI0.out)) | exact HB.out)); rintro e w29 ⟨rfl, hi, hb, hk⟩; refine ⟨_, rfl, ?_⟩; have n0_ := Aside0.mk (KeepBut.trans (by repeat (first | (with_reducible first | exact HK.out | apply KeepBut.set_ | apply keep_drewN | apply keep_drew | apply keep_alloc) | exact HK.out)) hk (.inl rfl)); have n1_ := Aside0.mk (hb); have n2_ := Aside0.mk (hi); clear HK; clear HB; clear HI0; have HK := n0_; have HB := n1_; have HI0 := n2_; clear n0_ n1_ n2_; (try clear hb); (try clear hb2); (try clear hk); (try clear hi)))
            go_loopg [3] kj5 (fun kq v3 w' => ∃ (x3_2 : ByteArray) (x1001_2 : Int) (x1002_2 : Int), v3 = .string x3_2 ∧ Aside0 (spec_l1Name.l0 kq x3_2 s0_0 x1001_2 x1002_2 = some (r1, r2, r3)) ∧ Aside0 (kq ≤ kj5) ∧ Aside0 (IsS81 w0 w' g s0_0 x1001_2 x1002_2) ∧ Aside0 (KeepBut w w' g none) ∧ Aside0 (Below w0.heap.size w0 w'))
            case atStart => exact ⟨((⟨#[113]⟩ : ByteArray)), (t183), (t184), (by first | rfl | (simp; done) | (simp [*]; done)), H', ⟨Nat.le_refl _⟩, ⟨by repeat (first | (with_reducible first | exact HI0.out | apply IsS81.alloc | apply IsS81.drewN | apply IsS81.drew | apply IsS81.set_1 | apply IsS81.set_2) | exact HI0.out)⟩, ⟨by repeat (first | (with_reducible first | exact HK.out | apply KeepBut.set_ | apply keep_drewN | apply keep_drew | apply keep_alloc) | exact HK.out)⟩, ⟨by repeat (first | (with_reducible first | exact HB.out | apply below_alloc | apply pw_below_drewN | apply below_drew1 | refine below_set ?_ (IsS81.ge HI0.out)) | exact HB.out)⟩⟩
            case round =>
              clear H'
              try clear c1
              try clear p1
              try clear q1
              try clear hx1
              try clear qi1
              try clear c2
              try clear p2
              try clear hcv2
              try clear c3
              try clear c3b0
              try clear c4
              try clear c4b0
              try clear c12
              try clear c13
              try clear c13b0
              try clear c13b1
              try clear c15
              try clear c15b0
              try clear c16
              try clear c16b0
              try clear p16
              try clear q16
              try clear hx16
              try clear p18
              try clear q18
              try clear hx18
              try clear qi18
              try clear hcv20
              try clear hcv21
              try clear c28
              try clear hx168_0
              try clear hx181_0
              try clear p1
              try clear p16
              try clear p168
              try clear p18
              try clear p181
              try clear p2
              try clear q1
              try clear q16
              try clear q168
              try clear q18
              try clear q181
              obtain ⟨x3_2, x1001_2, x1002_2, rfl, HA, HK2, HI0, HK, HB⟩ := hrel
              cases gk with
              | zero => exact absurd HA.out (by simp [spec_l1Name.l0])
              | succ k2 =>
                have H := HA.out
                clear HA
                simp only [spec_l1Name.l0] at H
                replace H := Option.bind_eq_some_iff.mp H
                obtain ⟨⟨t185, t186, t187⟩, A300, H⟩ := H
                replace H : (if (x3_2.size : Int) < (wrap64 (59 + t185)) then (if (x3_2.size : Int) < 61 then (if x3_2.size + 1 ≤ 9223372036854775807 then (spec_l1Name.l0 k2 (x3_2 ++ (⟨#[113]⟩ : ByteArray)) s0_0 t186 t187) else (none)) else (some (x3_2, t186, t187))) else (some (x3_2, t186, t187))) = some (r1, r2, r3) := H
                have A30 := Aside0.mk A300
                clear A300
                by_cases c31 : (x3_2.size : Int) < (wrap64 (59 + t185))
                · rw [if_pos c31] at H
                  have c31b0 : decide ((x3_2.size : Int) < (wrap64 (59 + t185))) = true := decide_eq_true c31
                  clear c31
                  by_cases c32 : (x3_2.size : Int) < 61
                  · rw [if_pos c32] at H
                    have c32b0 : decide ((x3_2.size : Int) < 61) = true := decide_eq_true c32
                    have c32b1 : decide (x3_2.size < 61) = true := decide_eq_true (by omega)
                    clear c32
                    by_cases c33 : x3_2.size + 1 ≤ 9223372036854775807
                    · rw [if_pos c33] at H
                      have c33b0 := eq_true c33
                      have c33b1 : decide (x3_2.size + 1 ≤ 9223372036854775807) = true := decide_eq_true c33
                      try have c33b2 : (9223372036854775807 < x3_2.size + 1) = False := eq_false (Nat.not_lt.2 c33)
                      try (have c33b3 := Nat.not_lt.2 c33; simp only [ByteArray.size_append, ByteArray.size_mk', List.size_toArray, List.length_cons, List.length_nil, Nat.zero_add, Nat.reduceAdd] at c33b3; replace c33b3 := eq_false c33b3)
                      have H' := Aside0.mk H
                      clear H
                      go_wp2_with (first | ((with_reducible refine gate_callee (f := 37) rfl ?_); refine goesL_ (some 23) rfl rfl Try.func37 (by kernel_rfl) rfl #[.pointer (some ⟨g, 0, none⟩), .int .i64 3] rfl (by (try simp only [List.map_toArray, List.map_cons, List.map_nil]); first | done | rfl | (simp only [List.length_drop, List.length_take]; rfl)) ?_; (with_reducible refine (spec_l1Below.calls g s0_0 x1001_2 x1002_2 3 t185 t186 t187 w0 _ ?side1 ?side2 A30.out).mono ?_); (case side1 => repeat (first | (with_reducible first | exact HI0.out | apply IsS81.alloc | apply IsS81.drewN | apply IsS81.drew | apply IsS81.set_1 | apply IsS81.set_2) | exact HI0.out)); (case side2 => repeat (first | (with_reducible first | exact HB.out | apply below_alloc | apply pw_below_drewN | apply below_drew1 | refine below_set ?_ (IsS81.ge HI0.out)) | exact HB.out)); rintro e w34 ⟨rfl, hi, hb, hk⟩; refine ⟨_, rfl, ?_⟩; have n0_ := Aside0.mk (KeepBut.trans (by repeat (first | (with_reducible first | exact HK.out | apply KeepBut.set_ | apply keep_drewN | apply keep_drew | apply keep_alloc) | exact HK.out)) hk (.inl rfl)); have n1_ := Aside0.mk (hb); have n2_ := Aside0.mk (hi); clear HK; clear HB; clear HI0; have HK := n0_; have HB := n1_; have HI0 := n2_; clear n0_ n1_ n2_; (try clear hb); (try clear hb2); (try clear hk); (try clear hi)))
                      go_roundg k2
                      case measure => have := HJ5.out; have := HK2.out; omega
                      case rel => exact ⟨(x3_2 ++ (⟨#[113]⟩ : ByteArray)), (t186), (t187), (by first | rfl | (simp; done) | (simp [*]; done)), H', ⟨by have := HJ5.out; have := HK2.out; omega⟩, ⟨by repeat (first | (with_reducible first | exact HI0.out | apply IsS81.alloc | apply IsS81.drewN | apply IsS81.drew | apply IsS81.set_1 | apply IsS81.set_2) | exact HI0.out)⟩, ⟨by repeat (first | (with_reducible first | exact HK.out | apply KeepBut.set_ | apply keep_drewN | apply keep_drew | apply keep_alloc) | exact HK.out)⟩, ⟨by repeat (first | (with_reducible first | exact HB.out | apply below_alloc | apply pw_below_drewN | apply below_drew1 | refine below_set ?_ (IsS81.ge HI0.out)) | exact HB.out)⟩⟩
                    · rw [if_neg c33] at H
                      exact absurd H (by simp)
                  · rw [if_neg c32] at H
                    have c32b0 : decide ((x3_2.size : Int) < 61) = false := decide_eq_false c32
                    have c32b1 : decide (x3_2.size < 61) = false := decide_eq_false (by omega)
                    clear c32
                    simp only [Option.some.injEq, Prod.mk.injEq] at H
                    obtain ⟨rfl, rfl, rfl⟩ := H
                    go_wp2_with (first | ((with_reducible refine gate_callee (f := 37) rfl ?_); refine goesL_ (some 23) rfl rfl Try.func37 (by kernel_rfl) rfl #[.pointer (some ⟨g, 0, none⟩), .int .i64 3] rfl (by (try simp only [List.map_toArray, List.map_cons, List.map_nil]); first | done | rfl | (simp only [List.length_drop, List.length_take]; rfl)) ?_; (with_reducible refine (spec_l1Below.calls g s0_0 x1001_2 x1002_2 3 t185 t186 t187 w0 _ ?side1 ?side2 A30.out).mono ?_); (case side1 => repeat (first | (with_reducible first | exact HI0.out | apply IsS81.alloc | apply IsS81.drewN | apply IsS81.drew | apply IsS81.set_1 | apply IsS81.set_2) | exact HI0.out)); (case side2 => repeat (first | (with_reducible first | exact HB.out | apply below_alloc | apply pw_below_drewN | apply below_drew1 | refine below_set ?_ (IsS81.ge HI0.out)) | exact HB.out)); rintro e w35 ⟨rfl, hi, hb, hk⟩; refine ⟨_, rfl, ?_⟩; have n0_ := Aside0.mk (KeepBut.trans (by repeat (first | (with_reducible first | exact HK.out | apply KeepBut.set_ | apply keep_drewN | apply keep_drew | apply keep_alloc) | exact HK.out)) hk (.inl rfl)); have n1_ := Aside0.mk (hb); have n2_ := Aside0.mk (hi); clear HK; clear HB; clear HI0; have HK := n0_; have HB := n1_; have HI0 := n2_; clear n0_ n1_ n2_; (try clear hb); (try clear hb2); (try clear hk); (try clear hi)))
                    go_ret
                    exact ⟨by first | rfl | (simp [errW_none, errW_some] <;> rfl) | (simp [*, errW_none, errW_some] <;> rfl), by repeat (first | (with_reducible first | exact HI0.out | apply IsS81.alloc | apply IsS81.drewN | apply IsS81.drew | apply IsS81.set_1 | apply IsS81.set_2) | exact HI0.out), by repeat (first | (with_reducible first | exact HB.out | apply below_alloc | apply pw_below_drewN | apply below_drew1 | refine below_set ?_ (IsS81.ge HI0.out)) | exact HB.out), by repeat (first | (with_reducible first | exact HK.out | apply KeepBut.set_ | apply keep_drewN | apply keep_drew | apply keep_alloc) | exact HK.out)⟩
                · rw [if_neg c31] at H
                  have c31b0 : decide ((x3_2.size : Int) < (wrap64 (59 + t185))) = false := decide_eq_false c31
                  clear c31
                  simp only [Option.some.injEq, Prod.mk.injEq] at H
                  obtain ⟨rfl, rfl, rfl⟩ := H
                  go_wp2_with (first | ((with_reducible refine gate_callee (f := 37) rfl ?_); refine goesL_ (some 23) rfl rfl Try.func37 (by kernel_rfl) rfl #[.pointer (some ⟨g, 0, none⟩), .int .i64 3] rfl (by (try simp only [List.map_toArray, List.map_cons, List.map_nil]); first | done | rfl | (simp only [List.length_drop, List.length_take]; rfl)) ?_; (with_reducible refine (spec_l1Below.calls g s0_0 x1001_2 x1002_2 3 t185 t186 t187 w0 _ ?side1 ?side2 A30.out).mono ?_); (case side1 => repeat (first | (with_reducible first | exact HI0.out | apply IsS81.alloc | apply IsS81.drewN | apply IsS81.drew | apply IsS81.set_1 | apply IsS81.set_2) | exact HI0.out)); (case side2 => repeat (first | (with_reducible first | exact HB.out | apply below_alloc | apply pw_below_drewN | apply below_drew1 | refine below_set ?_ (IsS81.ge HI0.out)) | exact HB.out)); rintro e w36 ⟨rfl, hi, hb, hk⟩; refine ⟨_, rfl, ?_⟩; have n0_ := Aside0.mk (KeepBut.trans (by repeat (first | (with_reducible first | exact HK.out | apply KeepBut.set_ | apply keep_drewN | apply keep_drew | apply keep_alloc) | exact HK.out)) hk (.inl rfl)); have n1_ := Aside0.mk (hb); have n2_ := Aside0.mk (hi); clear HK; clear HB; clear HI0; have HK := n0_; have HB := n1_; have HI0 := n2_; clear n0_ n1_ n2_; (try clear hb); (try clear hb2); (try clear hk); (try clear hi)))
                  go_ret
                  exact ⟨by first | rfl | (simp [errW_none, errW_some] <;> rfl) | (simp [*, errW_none, errW_some] <;> rfl), by repeat (first | (with_reducible first | exact HI0.out | apply IsS81.alloc | apply IsS81.drewN | apply IsS81.drew | apply IsS81.set_1 | apply IsS81.set_2) | exact HI0.out), by repeat (first | (with_reducible first | exact HB.out | apply below_alloc | apply pw_below_drewN | apply below_drew1 | refine below_set ?_ (IsS81.ge HI0.out)) | exact HB.out), by repeat (first | (with_reducible first | exact HK.out | apply KeepBut.set_ | apply keep_drewN | apply keep_drew | apply keep_alloc) | exact HK.out)⟩
          · replace c28 := Bool.eq_false_iff.mpr c28
            subst c28
            have H1 : (some (x3_5, t183, t184)) = some (r1, r2, r3) := by rw [if_neg (show ¬ (false = true) by decide)] at H; exact H
            clear H
            have H := H1
            clear H1
            simp only [Option.some.injEq, Prod.mk.injEq] at H
            obtain ⟨rfl, rfl, rfl⟩ := H
            go_wp2_with (first | ((with_reducible refine gate_callee (f := 36) rfl ?_); refine goesL_ (some 19) rfl rfl Try.func36 (by kernel_rfl) rfl #[.pointer (some ⟨g, 0, none⟩), .int .i64 40] rfl (by (try simp only [List.map_toArray, List.map_cons, List.map_nil]); first | done | rfl | (simp only [List.length_drop, List.length_take]; rfl)) ?_; (with_reducible refine (spec_l1Once.calls g s0_0 x1001_5 x1002_5 40 false t183 t184 w0 _ ?side1 ?side2 A27.out).mono ?_); (case side1 => repeat (first | (with_reducible first | exact HI0.out | apply IsS81.alloc | apply IsS81.drewN | apply IsS81.drew | apply IsS81.set_1 | apply IsS81.set_2) | exact HI0.out)); (case side2 => repeat (first | (with_reducible first | exact HB.out | apply below_alloc | apply pw_below_drewN | apply below_drew1 | refine below_set ?_ (IsS81.ge HI0.out)) | exact HB.out)); rintro e w37 ⟨rfl, hi, hb, hk⟩; refine ⟨_, rfl, ?_⟩; have n0_ := Aside0.mk (KeepBut.trans (by repeat (first | (with_reducible first | exact HK.out | apply KeepBut.set_ | apply keep_drewN | apply keep_drew | apply keep_alloc) | exact HK.out)) hk (.inl rfl)); have n1_ := Aside0.mk (hb); have n2_ := Aside0.mk (hi); clear HK; clear HB; clear HI0; have HK := n0_; have HB := n1_; have HI0 := n2_; clear n0_ n1_ n2_; (try clear hb); (try clear hb2); (try clear hk); (try clear hi)))
            go_ret
            exact ⟨by first | rfl | (simp [errW_none, errW_some] <;> rfl) | (simp [*, errW_none, errW_some] <;> rfl), by repeat (first | (with_reducible first | exact HI0.out | apply IsS81.alloc | apply IsS81.drewN | apply IsS81.drew | apply IsS81.set_1 | apply IsS81.set_2) | exact HI0.out), by repeat (first | (with_reducible first | exact HB.out | apply below_alloc | apply pw_below_drewN | apply below_drew1 | refine below_set ?_ (IsS81.ge HI0.out)) | exact HB.out), by repeat (first | (with_reducible first | exact HK.out | apply KeepBut.set_ | apply keep_drewN | apply keep_drew | apply keep_alloc) | exact HK.out)⟩
    · rw [if_neg c4] at H
      exact absurd H (by simp)
  · rw [if_neg c3] at H
    exact absurd H (by simp)

end Go.Proofs.Ytklinldidfdnjaa.PFnWordBack
