-- Laid by a program of this session: a turned copy of the kit's print, with contracts by hand beside.
import Derived.Test.YtnahkojlamficaaPFnPlanReachesx0
namespace Go.Proofs.Ytnahkojlamficaa.PFnPlanReaches
open Go.RowKit Go.Proofs.YtnahkojlamficaaW.PrintWords Go.Proofs.YtnahkojlamficaaW.PrintLast Go.Proofs.YtnahkojlamficaaW.PrintMore
theorem zd0 {X : Prop} (h : X := by first | rfl | (simp; done) | (simp [*]; done)) : X := h
theorem zd1 {X : Prop} (h : X := by repeat (first | exact Drawn0.refl _ | apply Drawn0.step)) : X := h
theorem zd2 {X : Prop} (h : X := by first | (with_reducible assumption) | assumption) : X := h
theorem zd3 {X : Prop} (h : X := by (try simp only [List.map_toArray, List.map_cons, List.map_nil]); first | done | rfl | (simp only [List.length_drop, List.length_take]; rfl)) : X := h
attribute [local go_sem] max2_int min2_int max_two min_two max_three min_three max_four min_four   -- for this text's walks alone
set_option linter.unusedVariables false
set_option linter.unusedSimpArgs false

/-! ### impl_letter: function 77 -/
def impl_letter.f (a0 : Int) : Option (Bool) := if a0 ≥ 97 then (if a0 ≤ 122 then (some true) else (if a0 ≥ 65 then (some (decide (a0 ≤ 90))) else (some false))) else (if a0 ≥ 65 then (some (decide (a0 ≤ 90))) else (some false))
set_option maxHeartbeats 8000000 in
set_option maxRecDepth 100000 in
theorem impl_letter.calls (a0 : Int) (r : Bool) (w : World) (h : impl_letter.f a0 = some r) :
  Calls Try.prog 77 #[.int .u8 a0] w fun e w' => e = .returned (.bool r) ∧ Drawn0 w w' := by
 have H : (if a0 ≥ 97 then (if a0 ≤ 122 then (some true) else (if a0 ≥ 65 then (some (decide (a0 ≤ 90))) else (some false))) else (if a0 ≥ 65 then (some (decide (a0 ≤ 90))) else (some false))) = some r := h; clear h; by_cases c2 : a0 ≥ 97
 ·rw [if_pos c2] at H; have c2b0 : decide (97 ≤ a0) = true := decide_eq_true c2; clear c2; by_cases c3 : a0 ≤ 122
  ·rw [if_pos c3] at H; have c3b0 : decide (a0 ≤ 122) = true := decide_eq_true c3; clear c3; obtain rfl := Option.some.inj H; go_enter Try.func77, Try.ntmps77; go_wp2; go_ret; exact ⟨zd0, zd1⟩
  ·rw [if_neg c3] at H; have c3b0 : decide (a0 ≤ 122) = false := decide_eq_false c3; clear c3; by_cases c4 : a0 ≥ 65
   ·rw [if_pos c4] at H; have c4b0 : decide (65 ≤ a0) = true := decide_eq_true c4; clear c4; obtain rfl := Option.some.inj H; go_enter Try.func77, Try.ntmps77; go_wp2; go_ret; exact ⟨zd0, zd1⟩
   ·rw [if_neg c4] at H; have c4b0 : decide (65 ≤ a0) = false := decide_eq_false c4; clear c4; obtain rfl := Option.some.inj H; go_enter Try.func77, Try.ntmps77; go_wp2; go_ret; exact ⟨zd0, zd1⟩
 ·rw [if_neg c2] at H; have c2b0 : decide (97 ≤ a0) = false := decide_eq_false c2; clear c2; by_cases c5 : a0 ≥ 65
  ·rw [if_pos c5] at H; have c5b0 : decide (65 ≤ a0) = true := decide_eq_true c5; clear c5; obtain rfl := Option.some.inj H; go_enter Try.func77, Try.ntmps77; go_wp2; go_ret; exact ⟨zd0, zd1⟩
  ·rw [if_neg c5] at H; have c5b0 : decide (65 ≤ a0) = false := decide_eq_false c5; clear c5; obtain rfl := Option.some.inj H; go_enter Try.func77, Try.ntmps77; go_wp2; go_ret; exact ⟨zd0, zd1⟩

/-! ### impl_digit: function 78 -/
def impl_digit.f (a0 : Int) : Option (Bool) := if a0 ≥ 48 then (some (decide (a0 ≤ 57))) else (some false)
set_option maxHeartbeats 8000000 in
set_option maxRecDepth 100000 in
theorem impl_digit.calls (a0 : Int) (r : Bool) (w : World) (h : impl_digit.f a0 = some r) :
  Calls Try.prog 78 #[.int .u8 a0] w fun e w' => e = .returned (.bool r) ∧ Drawn0 w w' := by
 have H : (if a0 ≥ 48 then (some (decide (a0 ≤ 57))) else (some false)) = some r := h; clear h; by_cases c2 : a0 ≥ 48
 ·rw [if_pos c2] at H; have c2b0 : decide (48 ≤ a0) = true := decide_eq_true c2; clear c2; obtain rfl := Option.some.inj H; go_enter Try.func78, Try.ntmps78; go_wp2; go_ret; exact ⟨zd0, zd1⟩
 ·rw [if_neg c2] at H; have c2b0 : decide (48 ≤ a0) = false := decide_eq_false c2; clear c2; obtain rfl := Option.some.inj H; go_enter Try.func78, Try.ntmps78; go_wp2; go_ret; exact ⟨zd0, zd1⟩

/-! ### strings_ContainsRune: function 79 -/
set_option maxRecDepth 100000 in
set_option maxHeartbeats 2000000 in
theorem cr_stringslite_calls (s : ByteArray) (c : Int) (w : World) :
    Calls Try.prog 89 #[.string s, .int .u8 c] w fun e w' => e = .returned (.int .i64 (Lib.indexByte s.data.toList c.toNat.toUInt8)) ∧ w' = w := by
  go_enter Try.func89, Try.ntmps89; go_wp2; rw [run_callFunc_extern Try.func90 (by kernel_rfl) (by kernel_rfl) (by kernel_rfl) (e := Extern.BytealgIndexByte.indexByte) (by kernel_rfl), Lib.run_indexByteString]; simp only [Result.andThen]; rw [Oper.upon_value]; go_wp2; go_ret; exact ⟨rfl, rfl⟩
set_option maxRecDepth 100000 in
set_option maxHeartbeats 2000000 in
theorem cr_IndexByte_calls (s : ByteArray) (c : Int) (w : World) :
    Calls Try.prog 85 #[.string s, .int .u8 c] w fun e w' => e = .returned (.int .i64 (Lib.indexByte s.data.toList c.toNat.toUInt8)) ∧ w' = w := by
  go_enter Try.func85, Try.ntmps85; go_wp2_with (go_at_call 89; refine (cr_stringslite_calls _ _ _).mono ?_; rintro e w' ⟨rfl, rfl⟩); go_ret; exact ⟨rfl, rfl⟩
set_option maxRecDepth 100000 in
set_option maxHeartbeats 2000000 in
theorem cr_ascii (s : ByteArray) (c : Int) (w : World) (h0 : 0 ≤ c) (h1 : c < 128) :
    Calls Try.prog 84 #[.string s, .int .i32 c] w fun e w' => e = .returned (.int .i64 (Lib.indexByte s.data.toList c.toNat.toUInt8)) ∧ w' = w := by
  have hw : IntKind.u8.wrap c = c := by rw [IntKind.wrap_u8]; omega
  go_enter Try.func84, Try.ntmps84; go_wp2_with (go_at_call 85; refine (cr_IndexByte_calls _ _ _).mono ?_; rintro e w' ⟨rfl, rfl⟩); go_ret; exact ⟨rfl, rfl⟩
set_option maxRecDepth 100000 in
set_option maxHeartbeats 2000000 in
theorem cr_high (c : Int) (w : World) (h0 : 128 ≤ c) (h1 : c < 256) :
    Calls Try.prog 84 #[.string ⟨#[45, 95, 46, 43]⟩, .int .i32 c] w fun e w' => e = .returned (.int .i64 (-1)) ∧ ∃ n, w' = w.drewN n := by
  obtain ⟨rs, hrs⟩ : ∃ rs, rs = Utf8.encode c := ⟨_, rfl⟩; have hv : Utf8.valid c = true := by rw [validRune_eq]; simp [validRune]; omega
  obtain ⟨g1, g2, g3⟩ := encode_facts c hv h0; rw [← hrs] at g1 g2 g3; have hz : rs.size = 2 := by
    rw [hrs]; unfold Utf8.encode; have hc : ¬ c.toNat < 128 := by omega
    have hc2 : c.toNat < 2048 := by omega
    simp only [hv, if_true, hc, if_false, hc2]; rfl
  have hlt : 1 < rs.size := by omega
  have g4 : 128 ≤ (rs[1]'hlt).toNat := by have := g3 (by omega); simpa [hz] using this
  go_enter Try.func84, Try.ntmps84; have q1 : (c == 65533) = false := by simp; omega
  have q2 : c < 55296 := by omega
  have q3 : 0 ≤ c := by omega
  have q4 : ¬ c < 128 := by omega
  clear hv g1 g2 g3; have HE : Utf8.encode c = rs := hrs.symm; clear hrs; go_wp2_with go_in; go_step3; go_wp2_with fail; refine wp_loop_rounds 1 ?_; rw [rounds_succ]; go_wp2_with fail; go_step3; go_wp2_with fail; have q6 : ((((⟨#[45, 95, 46, 43]⟩ : ByteArray)[1]'(by decide)).toNat : Int) != ((rs[1]'hlt).toNat : Int)) = true := by
    have : ((⟨#[45, 95, 46, 43]⟩ : ByteArray)[1]'(by decide)).toNat = 95 := rfl; rw [this]; simp; omega
  go_quiet (fail); go_wp2_with fail; have q7 : IntKind.i64.wrap 2 = 2 := by rw [IntKind.wrap_i64]; rfl
  go_quiet ((go_at_call 85; refine (cr_IndexByte_calls _ _ _).mono ?_; rintro e w' ⟨rfl, rfl⟩; exact ⟨rfl, _, rfl⟩)); have q9 : Lib.indexByte [46, 43] (rs[1]'hlt) < 0 := by
    have e1 : ((46 : UInt8) == (rs[1]'hlt)) = false := by
      rw [beq_eq_false_iff_ne]; intro h; rw [← h] at g4; exact absurd g4 (by decide)
    have e2 : ((43 : UInt8) == (rs[1]'hlt)) = false := by
      rw [beq_eq_false_iff_ne]; intro h; rw [← h] at g4; exact absurd g4 (by decide)
    simp [Lib.indexByte, e1, e2]
  go_wp2_with fail; rw [Exit.noGoto_ret]; go_wp2_with fail; rw [Exit.noGoto_ret]; go_ret; exact ⟨rfl, _, by first | rfl | exact World.drewN_drewN ..⟩
theorem cr_ix : ∀ c : Fin 128, decide (Lib.indexByte [45, 95, 46, 43] ((c.val : Int)).toNat.toUInt8 ≥ 0) = (c.val == 45 || c.val == 95 || c.val == 46 || c.val == 43) := by decide +kernel
/-- At the one text that the program asks, and at a byte. -/
def strings_ContainsRune.f (a0 : ByteArray) (a1 : Int) : Option (Bool) := if a0.toList = [45, 95, 46, 43] then if 0 ≤ a1 ∧ a1 < 256 then some (a1 == 45 || a1 == 95 || a1 == 46 || a1 == 43) else none else none
set_option maxRecDepth 100000 in
set_option maxHeartbeats 2000000 in
theorem strings_ContainsRune.calls (a0 : ByteArray) (a1 : Int) (r : Bool) (w : World) (h : strings_ContainsRune.f a0 a1 = some r) :
    Calls Try.prog 79 #[.string a0, .int .i32 a1] w fun e w' => e = .returned (.bool r) ∧ Drawn0 w w' := by
  unfold strings_ContainsRune.f at h; by_cases h1 : a0.toList = [45, 95, 46, 43]
  · obtain rfl : a0 = ⟨#[45, 95, 46, 43]⟩ := by
      have : a0.data.toList = [45, 95, 46, 43] := by rw [← Lib.toList_data]; exact h1
      cases a0; simp at this; simp [← this]
    rw [if_pos h1] at h; by_cases h2 : 0 ≤ a1 ∧ a1 < 256
    · rw [if_pos h2] at h; obtain rfl := Option.some.inj h; obtain ⟨h3, h4⟩ := h2; clear h h1; by_cases h5 : a1 < 128
      · have hr : decide (Lib.indexByte (⟨#[45, 95, 46, 43]⟩ : ByteArray).data.toList a1.toNat.toUInt8 ≥ 0) = (a1 == 45 || a1 == 95 || a1 == 46 || a1 == 43) := by
          have := cr_ix ⟨a1.toNat, by omega⟩; simp only [Int.toNat_of_nonneg h3] at this; rw [show (⟨#[45, 95, 46, 43]⟩ : ByteArray).data.toList = [45, 95, 46, 43] from rfl, this]; obtain ⟨n, rfl⟩ := Int.eq_ofNat_of_zero_le h3; simp only [Int.toNat_natCast]; rw [Bool.eq_iff_iff]; simp; omega
        rw [← hr]; generalize hq : Lib.indexByte (⟨#[45, 95, 46, 43]⟩ : ByteArray).data.toList a1.toNat.toUInt8 = q; have hq := Aside0.mk hq; clear hr; go_enter Try.func79, Try.ntmps79; go_wp2_with (go_at_call 84; refine (cr_ascii _ _ _ h3 h5).mono ?_; rintro e w' ⟨rfl, rfl⟩; rw [hq.out]); go_ret; exact ⟨rfl, Drawn0.refl _⟩
      · have hr : (a1 == 45 || a1 == 95 || a1 == 46 || a1 == 43) = false := by simp; omega
        rw [hr]; have h6 : 128 ≤ a1 := by omega
        clear hr h5; go_enter Try.func79, Try.ntmps79; go_wp2_with (go_at_call 84; refine (cr_high _ _ h6 h4).mono ?_; rintro e w' ⟨rfl, n, rfl⟩); go_ret; exact ⟨rfl, ⟨_, rfl⟩⟩
    · rw [if_neg h2] at h; exact absurd h (by simp)
  · rw [if_neg h1] at h; exact absurd h (by simp)

/-! ### impl_NameOk: function 51 -/
mutual
def impl_NameOk.j0 : Nat → ByteArray → Bool → Option (Bool)
 | 0, _, _ => none
 | k + 1, x0, x17 => if x17 = true then (some false) else (impl_NameOk.l0 k x0 (x0.size : Int) 0)
def impl_NameOk.l0 : Nat → ByteArray → Int → Int → Option (Bool)
 | 0, _, _, _ => none
 | k + 1, x0, x19, x20 => if x20 < x19 then (if 0 ≤ x20 then (if x20 < (x0.size : Int) then ((impl_letter.f (bt x0 x20)).bind fun t119 => (if t119 = true then (impl_NameOk.l0 k x0 x19 (wrap64 (x20 + 1))) else ((impl_digit.f (bt x0 x20)).bind fun t120 => (if t120 = true then (impl_NameOk.l0 k x0 x19 (wrap64 (x20 + 1))) else ((strings_ContainsRune.f (⟨#[45, 95, 46, 43]⟩ : ByteArray) (wrap32 (bt x0 x20))).bind fun t121 => (if t121 = true then (impl_NameOk.l0 k x0 x19 (wrap64 (x20 + 1))) else (some false))))))) else (none)) else (none)) else (some true)
end
def impl_NameOk.f (k : Nat) (a0 : ByteArray) : Option (Bool) := if (a0.size : Int) < 1 then (impl_NameOk.j0 k a0 true) else (if (a0.size : Int) > 60 then (impl_NameOk.j0 k a0 true) else (if 0 < (a0.size : Int) then (impl_NameOk.j0 k a0 ((bt a0 0) == 46)) else (none)))
theorem impl_NameOk.mono_l : ∀ k, (∀ y0 y1, LeO (impl_NameOk.j0 k y0 y1) (impl_NameOk.j0 (k + 1) y0 y1)) ∧ (∀ y0 y1 y2, LeO (impl_NameOk.l0 k y0 y1 y2) (impl_NameOk.l0 (k + 1) y0 y1 y2))
 | 0 => ⟨fun _ _ r h => by simp [impl_NameOk.j0] at h, fun _ _ _ r h => by simp [impl_NameOk.l0] at h⟩
 | k + 1 => by
  obtain ⟨ih0, ih1⟩ := impl_NameOk.mono_l k; refine ⟨?_, ?_⟩ <;> intros <;> (first | unfold impl_NameOk.j0 | unfold impl_NameOk.l0) <;>
   repeat' first
   | (with_reducible exact ih0 _ _)
   | (with_reducible exact ih1 _ _ _)
   | (with_reducible exact LeO.refl _)
   | (with_reducible exact LeO.none _)
   | (with_reducible refine LeO.ite ?_ ?_)
   | (with_reducible refine LeO.bind ?_ (fun _ => ?_))
   | exact ih0 _ _
   | exact ih1 _ _ _
   | exact LeO.none _
   | refine LeO.ite ?_ ?_
   | refine LeO.bind ?_ (fun _ => ?_)
theorem impl_NameOk.mono : ∀ a0 k, LeO (impl_NameOk.f k a0) (impl_NameOk.f (k + 1) a0) := by
 intro a0 k; obtain ⟨ih0, ih1⟩ := impl_NameOk.mono_l k; unfold impl_NameOk.f
 repeat' first
   | (with_reducible exact ih0 _ _)
   | (with_reducible exact ih1 _ _ _)
   | (with_reducible exact LeO.refl _)
   | (with_reducible exact LeO.none _)
   | (with_reducible refine LeO.ite ?_ ?_)
   | (with_reducible refine LeO.bind ?_ (fun _ => ?_))
   | exact ih0 _ _
   | exact ih1 _ _ _
   | exact LeO.none _
   | refine LeO.ite ?_ ?_
   | refine LeO.bind ?_ (fun _ => ?_)
set_option maxHeartbeats 8000000 in
set_option maxRecDepth 100000 in
theorem impl_NameOk.calls (k : Nat) (a0 : ByteArray) (r : Bool) (w : World) (h : impl_NameOk.f k a0 = some r) :
  Calls Try.prog 51 #[.string a0] w fun e w' => e = .returned (.bool r) ∧ Drawn0 w w' := by
 have H : (if (a0.size : Int) < 1 then (impl_NameOk.j0 k a0 true) else (if (a0.size : Int) > 60 then (impl_NameOk.j0 k a0 true) else (if 0 < (a0.size : Int) then (impl_NameOk.j0 k a0 ((bt a0 0) == 46)) else (none)))) = some r := h; clear h; have HC2 := Aside0.mk H; clear H; go_enter Try.func51, Try.ntmps51; go_upto_region 1 with (fail); go_cut [17] (fun v17 wc => ∃ (kq : Nat) (x17_1 : Bool), v17 = .bool x17_1 ∧ Aside0 (impl_NameOk.j0 kq a0 x17_1 = some r) ∧ Aside0 (kq ≤ k) ∧ Drawn0 w wc); case first =>
  have H := HC2.out; clear HC2; by_cases c3 : (a0.size : Int) < 1
  ·rw [if_pos c3] at H; have c3b0 : decide ((a0.size : Int) < 1) = true := decide_eq_true c3; have c3b1 : decide (a0.size < 1) = true := decide_eq_true (by omega); clear c3; (first | rw [c3b0] | (simp only [i64_w, i32_w]; rw [c3b0]) | skip); have H' := Aside0.mk H; clear H; go_wp2; go_meet; case rel => exact ⟨_, (true), zd0, H', ⟨by first | omega | exact Nat.le_refl _⟩, zd1⟩
  ·rw [if_neg c3] at H; have c3b0 : decide ((a0.size : Int) < 1) = false := decide_eq_false c3; have c3b1 : decide (a0.size < 1) = false := decide_eq_false (by omega); clear c3; (first | rw [c3b0] | (simp only [i64_w, i32_w]; rw [c3b0]) | skip); by_cases c4 : (a0.size : Int) > 60
   ·rw [if_pos c4] at H; have c4b0 : decide (60 < (a0.size : Int)) = true := decide_eq_true c4; have c4b1 : decide (60 < a0.size) = true := decide_eq_true (by omega); clear c4; have H' := Aside0.mk H; clear H; go_wp2; go_meet; case rel => exact ⟨_, (true), zd0, H', ⟨by first | omega | exact Nat.le_refl _⟩, zd1⟩
   ·rw [if_neg c4] at H; have c4b0 : decide (60 < (a0.size : Int)) = false := decide_eq_false c4; have c4b1 : decide (60 < a0.size) = false := decide_eq_false (by omega); clear c4; by_cases c5 : 0 < (a0.size : Int)
    ·rw [if_pos c5] at H; have c5b0 : decide (0 < (a0.size : Int)) = true := decide_eq_true c5; have c5b1 : decide (0 < a0.size) = true := decide_eq_true (by omega); clear c5; have H' := Aside0.mk H; clear H; have p6 : 0 ≤ (0 : Int) := (by omega); have q6 : 0 < a0.size := (by have : (0 : Int) < (a0.size : Int) := of_decide_eq_true (by first | (with_reducible assumption) | assumption); omega); have hx6 : ∀ h : 0 < a0.size, ((a0[0]'h).toNat : Int) = bt a0 0 := bt_at a0 0; clear p6; have qi6 : (0 < (a0.size : Int)) = True := eq_true (of_decide_eq_true zd2); replace q6 := eq_true q6; go_wp2; go_meet; case rel => exact ⟨_, (((bt a0 0) == 46)), zd0, H', ⟨by first | omega | exact Nat.le_refl _⟩, zd1⟩
    ·rw [if_neg c5] at H; exact absurd H (by simp)
 case rest =>
  clear HC2; (try clear p2); (try clear c3); (try clear c3b0); (try clear c3b1); (try clear c4); (try clear c4b0); (try clear c4b1); (try clear c5); (try clear c5b0); (try clear c5b1); (try clear p6); (try clear q6); (try clear hx6); (try clear qi6); (try clear p6); (try clear q6); obtain ⟨kq, x17_1, rfl, HA, HJ1, ⟨mc1, rfl⟩⟩ := hcut
  cases kq with
  | zero => exact absurd HA.out (by simp [impl_NameOk.j0])
  | succ kj1 =>
   have H := HA.out; clear HA; simp only [impl_NameOk.j0] at H; by_cases c7 : x17_1 = true
   ·subst c7; rw [if_pos rfl] at H; obtain rfl := Option.some.inj H; go_wp2; go_ret; exact ⟨zd0, zd1⟩
   ·replace c7 := Bool.eq_false_iff.mpr c7; subst c7; rw [if_neg (show ¬ (false = true) by decide)] at H; have H' := Aside0.mk H; clear H; go_wp2; go_loopg [20] kj1 (fun kq v20 w' => ∃ (x20_2 : Int), v20 = .int .i64 x20_2 ∧ Aside0 (impl_NameOk.l0 kq a0 (a0.size : Int) x20_2 = some r) ∧ Aside0 (kq ≤ kj1) ∧ Drawn0 w w'); (case atStart => exact ⟨(0), zd0, H', ⟨Nat.le_refl _⟩, zd1⟩); case round =>
     clear H'; (try clear c1); (try clear p2); (try clear c3); (try clear c3b0); (try clear c3b1); (try clear c4); (try clear c4b0); (try clear c4b1); (try clear c5); (try clear c5b0); (try clear c5b1); (try clear p6); (try clear q6); (try clear hx6); (try clear qi6); (try clear c7); (try clear p2); (try clear p6); (try clear q6); obtain ⟨x20_2, rfl, HA, HK2, ⟨m2, rfl⟩⟩ := hrel
     cases gk with
     | zero => exact absurd HA.out (by simp [impl_NameOk.l0])
     | succ k2 =>
      have H := HA.out; clear HA; simp only [impl_NameOk.l0] at H; by_cases c8 : x20_2 < (a0.size : Int)
      ·rw [if_pos c8] at H; have c8b0 : decide (x20_2 < (a0.size : Int)) = true := decide_eq_true c8; clear c8; by_cases c9 : 0 ≤ x20_2
       ·rw [if_pos c9] at H; have c9b0 : decide (0 ≤ x20_2) = true := decide_eq_true c9; clear c9; by_cases c10 : x20_2 < (a0.size : Int)
        ·rw [if_pos c10] at H; have c10b0 : decide (x20_2 < (a0.size : Int)) = true := decide_eq_true c10; clear c10; replace H := Option.bind_eq_some_iff.mp H; obtain ⟨t119, A120, H⟩ := H; have A12 := Aside0.mk A120; clear A120; by_cases c13 : t119 = true
         ·subst c13; rw [if_pos rfl] at H; have H' := Aside0.mk H; clear H; have p11 : 0 ≤ (x20_2 : Int) := of_decide_eq_true zd2; have q11 : x20_2 < (a0.size : Int) := of_decide_eq_true zd2; have hx11 := bt_at a0 x20_2; replace p11 := eq_true p11; replace q11 := eq_true q11; go_wp2_with (first | ((with_reducible refine gate_callee (f := 77) rfl ?_); refine goesL_ (some 27) rfl rfl Try.func77 (by kernel_rfl) rfl #[.int .u8 (bt a0 x20_2)] rfl zd3 ?_; (with_reducible refine (impl_letter.calls (bt a0 x20_2) true _ A12.out).mono ?_); rintro e w' ⟨rfl, ⟨nd, rfl⟩⟩; refine ⟨_, rfl, ?_⟩)); go_roundg k2; (case measure => have := HJ1.out; have := HK2.out; omega); case rel => exact ⟨(wrap64 (x20_2 + 1)), zd0, H', ⟨by have := HJ1.out; have := HK2.out; omega⟩, zd1⟩
         ·replace c13 := Bool.eq_false_iff.mpr c13; subst c13; rw [if_neg (show ¬ (false = true) by decide)] at H; replace H := Option.bind_eq_some_iff.mp H; obtain ⟨t120, A140, H⟩ := H; have A14 := Aside0.mk A140; clear A140; by_cases c15 : t120 = true
          ·subst c15; rw [if_pos rfl] at H; have H' := Aside0.mk H; clear H; have p11 : 0 ≤ (x20_2 : Int) := of_decide_eq_true zd2; have q11 : x20_2 < (a0.size : Int) := of_decide_eq_true zd2; have hx11 := bt_at a0 x20_2; replace p11 := eq_true p11; replace q11 := eq_true q11; go_wp2_with (first | ((with_reducible refine gate_callee (f := 77) rfl ?_); refine goesL_ (some 27) rfl rfl Try.func77 (by kernel_rfl) rfl #[.int .u8 (bt a0 x20_2)] rfl zd3 ?_; (with_reducible refine (impl_letter.calls (bt a0 x20_2) false _ A12.out).mono ?_); rintro e w' ⟨rfl, ⟨nd, rfl⟩⟩; refine ⟨_, rfl, ?_⟩) | (go_at_call 78; (with_reducible refine (impl_digit.calls (bt a0 x20_2) true _ A14.out).mono ?_); rintro e w' ⟨rfl, ⟨nd, rfl⟩⟩)); go_roundg k2; (case measure => have := HJ1.out; have := HK2.out; omega); case rel => exact ⟨(wrap64 (x20_2 + 1)), zd0, H', ⟨by have := HJ1.out; have := HK2.out; omega⟩, zd1⟩
          ·replace c15 := Bool.eq_false_iff.mpr c15; subst c15; rw [if_neg (show ¬ (false = true) by decide)] at H; replace H := Option.bind_eq_some_iff.mp H; obtain ⟨t121, A160, H⟩ := H; have A16 := Aside0.mk A160; clear A160; by_cases c17 : t121 = true
           ·subst c17; rw [if_pos rfl] at H; have H' := Aside0.mk H; clear H; have p11 : 0 ≤ (x20_2 : Int) := of_decide_eq_true zd2; have q11 : x20_2 < (a0.size : Int) := of_decide_eq_true zd2; have hx11 := bt_at a0 x20_2; replace p11 := eq_true p11; replace q11 := eq_true q11; go_wp2_with (first | ((with_reducible refine gate_callee (f := 77) rfl ?_); refine goesL_ (some 27) rfl rfl Try.func77 (by kernel_rfl) rfl #[.int .u8 (bt a0 x20_2)] rfl zd3 ?_; (with_reducible refine (impl_letter.calls (bt a0 x20_2) false _ A12.out).mono ?_); rintro e w' ⟨rfl, ⟨nd, rfl⟩⟩; refine ⟨_, rfl, ?_⟩) | (go_at_call 78; (with_reducible refine (impl_digit.calls (bt a0 x20_2) false _ A14.out).mono ?_); rintro e w' ⟨rfl, ⟨nd, rfl⟩⟩) | (go_at_call 79; (with_reducible refine (strings_ContainsRune.calls (⟨#[45, 95, 46, 43]⟩ : ByteArray) (wrap32 (bt a0 x20_2)) true _ A16.out).mono ?_); rintro e w' ⟨rfl, ⟨nd, rfl⟩⟩)); go_roundg k2; (case measure => have := HJ1.out; have := HK2.out; omega); case rel => exact ⟨(wrap64 (x20_2 + 1)), zd0, H', ⟨by have := HJ1.out; have := HK2.out; omega⟩, zd1⟩
           ·replace c17 := Bool.eq_false_iff.mpr c17; subst c17; rw [if_neg (show ¬ (false = true) by decide)] at H; obtain rfl := Option.some.inj H; have p11 : 0 ≤ (x20_2 : Int) := of_decide_eq_true zd2; have q11 : x20_2 < (a0.size : Int) := of_decide_eq_true zd2; have hx11 := bt_at a0 x20_2; replace p11 := eq_true p11; replace q11 := eq_true q11; go_wp2_with (first | ((with_reducible refine gate_callee (f := 77) rfl ?_); refine goesL_ (some 27) rfl rfl Try.func77 (by kernel_rfl) rfl #[.int .u8 (bt a0 x20_2)] rfl zd3 ?_; (with_reducible refine (impl_letter.calls (bt a0 x20_2) false _ A12.out).mono ?_); rintro e w' ⟨rfl, ⟨nd, rfl⟩⟩; refine ⟨_, rfl, ?_⟩) | (go_at_call 78; (with_reducible refine (impl_digit.calls (bt a0 x20_2) false _ A14.out).mono ?_); rintro e w' ⟨rfl, ⟨nd, rfl⟩⟩) | (go_at_call 79; (with_reducible refine (strings_ContainsRune.calls (⟨#[45, 95, 46, 43]⟩ : ByteArray) (wrap32 (bt a0 x20_2)) false _ A16.out).mono ?_); rintro e w' ⟨rfl, ⟨nd, rfl⟩⟩)); go_ret; exact ⟨zd0, zd1⟩
        ·rw [if_neg c10] at H; exact absurd H (by simp)
       ·rw [if_neg c9] at H; exact absurd H (by simp)
      ·rw [if_neg c8] at H; have c8b0 : decide (x20_2 < (a0.size : Int)) = false := decide_eq_false c8; clear c8; obtain rfl := Option.some.inj H; go_wp2; go_ret; exact ⟨zd0, zd1⟩

/-! ### impl_rising_hs: function 80 -/
def impl_rising_hs.l0 : Nat → List ByteArray → Int → Option (Bool)
 | 0, _, _ => none
 | k + 1, x0, x3 => if x3 < (x0.length : Int) then (if 0 ≤ (wrap64 (x3 - 1)) then (if (wrap64 (x3 - 1)) < (x0.length : Int) then (if 0 ≤ x3 then (if ((Op.bytesLess ((rdOf ByteArray.empty x0 (wrap64 (x3 - 1))).toList) ((rdOf ByteArray.empty x0 x3).toList)) = true) then (impl_rising_hs.l0 k x0 (wrap64 (x3 + 1))) else (some false)) else (none)) else (none)) else (none)) else (some true)
def impl_rising_hs.f (k : Nat) (l0 : List ByteArray) : Option (Bool) := impl_rising_hs.l0 k l0 1
theorem impl_rising_hs.mono_l : ∀ k, (∀ y0 y1, LeO (impl_rising_hs.l0 k y0 y1) (impl_rising_hs.l0 (k + 1) y0 y1))
 | 0 => fun _ _ r h => by simp [impl_rising_hs.l0] at h
 | k + 1 => by
  have ih0 := impl_rising_hs.mono_l k
  ·intro y0 y1; unfold impl_rising_hs.l0
   repeat' first
   | (with_reducible exact ih0 _ _)
   | (with_reducible exact LeO.refl _)
   | (with_reducible exact LeO.none _)
   | (with_reducible refine LeO.ite ?_ ?_)
   | (with_reducible refine LeO.bind ?_ (fun _ => ?_))
   | exact ih0 _ _
   | exact LeO.none _
   | refine LeO.ite ?_ ?_
   | refine LeO.bind ?_ (fun _ => ?_)
theorem impl_rising_hs.mono : ∀ a0 k, LeO (impl_rising_hs.f k a0) (impl_rising_hs.f (k + 1) a0) := by
 intro a0 k; have ih0 := impl_rising_hs.mono_l k; unfold impl_rising_hs.f
 repeat' first
   | (with_reducible exact ih0 _ _)
   | (with_reducible exact LeO.refl _)
   | (with_reducible exact LeO.none _)
   | (with_reducible refine LeO.ite ?_ ?_)
   | (with_reducible refine LeO.bind ?_ (fun _ => ?_))
   | exact ih0 _ _
   | exact LeO.none _
   | refine LeO.ite ?_ ?_
   | refine LeO.bind ?_ (fun _ => ?_)
set_option maxHeartbeats 8000000 in
set_option maxRecDepth 100000 in
theorem impl_rising_hs.calls (k : Nat) (A0 : Option Addr) (c0 : Nat) (l0 : List ByteArray) (r : Bool) (w : World) (hr0 : Kd.C Kd.string w A0 l0.length l0) (hc0 : l0.length ≤ c0) (h : impl_rising_hs.f k l0 = some r) :
  Calls Try.prog 80 #[.slice A0 l0.length c0] w fun e w' => e = .returned (.bool r) ∧ Drawn0 w w' := by
 have HR0 := Aside0.mk hr0; have HC0 := Aside0.mk hc0; clear hr0 hc0; have H : (impl_rising_hs.l0 k l0 1) = some r := h; clear h; have H' := Aside0.mk H; clear H; go_enter Try.func80, Try.ntmps80; go_wp2; (repeat (go_quiet (fail); try go_wp2)); go_loopg [3] k (fun kq v3 w' => ∃ (x3_1 : Int), v3 = .int .i64 x3_1 ∧ Aside0 (impl_rising_hs.l0 kq l0 x3_1 = some r) ∧ Aside0 (kq ≤ k) ∧ Drawn0 w w'); (case atStart => exact ⟨(1), zd0, H', ⟨Nat.le_refl _⟩, zd1⟩); case round =>
  clear H'; obtain ⟨x3_1, rfl, HA, HK1, ⟨m1, rfl⟩⟩ := hrel
  cases gk with
  | zero => exact absurd HA.out (by simp [impl_rising_hs.l0])
  | succ k1 =>
   have H := HA.out; clear HA; simp only [impl_rising_hs.l0] at H; by_cases c2 : x3_1 < (l0.length : Int)
   ·rw [if_pos c2] at H; have c2b0 : decide (x3_1 < (l0.length : Int)) = true := decide_eq_true c2; clear c2; obtain ⟨ji3, hji3⟩ : ∃ j_ : Int, (wrap64 (x3_1 - 1)) = j_ := ⟨_, rfl⟩; replace H : (if 0 ≤ (ji3) then (if (ji3) < (l0.length : Int) then (if 0 ≤ x3_1 then (if ((Op.bytesLess ((rdOf ByteArray.empty l0 (ji3)).toList) ((rdOf ByteArray.empty l0 x3_1).toList)) = true) then (impl_rising_hs.l0 k1 l0 (wrap64 (x3_1 + 1))) else (some false)) else (none)) else (none)) else (none)) = some r := by first | (rw [hji3] at H; exact H) | (simp only [hji3] at H ⊢; exact H)
    have hji3w : (IntKind.i64.wrap (x3_1 - 1)) = ji3 := (i64_w _).trans hji3; by_cases c4 : 0 ≤ (ji3)
    ·rw [if_pos c4] at H; have c4b0 : decide (0 ≤ (ji3)) = true := decide_eq_true c4; clear c4; by_cases c5 : (ji3) < (l0.length : Int)
     ·rw [if_pos c5] at H; have c5b0 : decide ((ji3) < (l0.length : Int)) = true := decide_eq_true c5; clear c5; by_cases c6 : 0 ≤ x3_1
      ·rw [if_pos c6] at H; have c6b0 : decide (0 ≤ x3_1) = true := decide_eq_true c6; clear c6; by_cases c7 : ((Op.bytesLess ((rdOf ByteArray.empty l0 (ji3)).toList) ((rdOf ByteArray.empty l0 x3_1).toList)) = true)
       ·rw [if_pos c7] at H; have c7b0 : (Op.bytesLess ((rdOf ByteArray.empty l0 (ji3)).toList) ((rdOf ByteArray.empty l0 x3_1).toList)) = true := c7; clear c7; have H' := Aside0.mk H; clear H; have p122 : 0 ≤ ((ji3) : Int) := of_decide_eq_true zd2; have q122 : (ji3) < (l0.length : Int) := of_decide_eq_true zd2; obtain ⟨ad122, e122, hx122_0⟩ := Kd.at_string HR0.out (ji3) p122 q122; cases e122; replace p122 := eq_true p122; replace q122 := eq_true q122; have p123 : 0 ≤ (x3_1 : Int) := of_decide_eq_true zd2; have q123 : x3_1 < (l0.length : Int) := of_decide_eq_true zd2; obtain ⟨ad123, e123, hx123_0⟩ := Kd.at_string HR0.out x3_1 p123 q123; obtain rfl : ad122 = ad123 := (by injection e123); replace p123 := eq_true p123; replace q123 := eq_true q123; go_wp2; (repeat (go_quiet (fail); try go_wp2)); go_roundg k1; (case measure => have := HK1.out; omega); case rel => exact ⟨(wrap64 (x3_1 + 1)), zd0, H', ⟨by have := HK1.out; omega⟩, zd1⟩
       ·rw [if_neg c7] at H; have c7b0 : (Op.bytesLess ((rdOf ByteArray.empty l0 (ji3)).toList) ((rdOf ByteArray.empty l0 x3_1).toList)) = false := by simpa using c7
        clear c7; obtain rfl := Option.some.inj H; have p122 : 0 ≤ ((ji3) : Int) := of_decide_eq_true zd2; have q122 : (ji3) < (l0.length : Int) := of_decide_eq_true zd2; obtain ⟨ad122, e122, hx122_0⟩ := Kd.at_string HR0.out (ji3) p122 q122; cases e122; replace p122 := eq_true p122; replace q122 := eq_true q122; have p123 : 0 ≤ (x3_1 : Int) := of_decide_eq_true zd2; have q123 : x3_1 < (l0.length : Int) := of_decide_eq_true zd2; obtain ⟨ad123, e123, hx123_0⟩ := Kd.at_string HR0.out x3_1 p123 q123; obtain rfl : ad122 = ad123 := (by injection e123); replace p123 := eq_true p123; replace q123 := eq_true q123; go_wp2; (repeat (go_quiet (fail); try go_wp2)); go_ret; exact ⟨by first | rfl | (simp; done) | (simp only [← hji3] <;> (first | rfl | simp)) | (simp [*]; done), zd1⟩
      ·rw [if_neg c6] at H; exact absurd H (by simp)
     ·rw [if_neg c5] at H; exact absurd H (by simp)
    ·rw [if_neg c4] at H; exact absurd H (by simp)
   ·rw [if_neg c2] at H; have c2b0 : decide (x3_1 < (l0.length : Int)) = false := decide_eq_false c2; clear c2; obtain rfl := Option.some.inj H; go_wp2; (repeat (go_quiet (fail); try go_wp2)); go_ret; exact ⟨zd0, zd1⟩

/-! ### impl_namesUp: function 52 -/
def impl_namesUp.l0 : Nat → List ByteArray → List ByteArray → Int → Int → Option (Bool)
 | 0, _, _, _, _ => none
 | k + 1, x0, x5, x6, x7 => if x7 < x6 then (if 0 ≤ x7 then (if x7 < (x5.length : Int) then ((impl_NameOk.f k (rdOf ByteArray.empty x5 x7)).bind fun t125 => (if t125 = true then (impl_namesUp.l0 k x0 x5 x6 (wrap64 (x7 + 1))) else (some false))) else (none)) else (none)) else ((impl_rising_hs.f k x0).bind fun t126 => (some t126))
def impl_namesUp.f (k : Nat) (l0 : List ByteArray) : Option (Bool) := impl_namesUp.l0 k l0 l0 (l0.length : Int) 0
theorem impl_namesUp.mono_l : ∀ k, (∀ y0 y1 y2 y3, LeO (impl_namesUp.l0 k y0 y1 y2 y3) (impl_namesUp.l0 (k + 1) y0 y1 y2 y3))
 | 0 => fun _ _ _ _ r h => by simp [impl_namesUp.l0] at h
 | k + 1 => by
  have ih0 := impl_namesUp.mono_l k
  ·intro y0 y1 y2 y3; unfold impl_namesUp.l0
   repeat' first
   | (with_reducible exact ih0 _ _ _ _)
   | (with_reducible exact impl_NameOk.mono _ _)
   | (with_reducible exact impl_rising_hs.mono _ _)
   | (with_reducible exact LeO.refl _)
   | (with_reducible exact LeO.none _)
   | (with_reducible refine LeO.ite ?_ ?_)
   | (with_reducible refine LeO.bind ?_ (fun _ => ?_))
   | exact ih0 _ _ _ _
   | exact impl_NameOk.mono _ _
   | exact impl_rising_hs.mono _ _
   | exact LeO.none _
   | refine LeO.ite ?_ ?_
   | refine LeO.bind ?_ (fun _ => ?_)
theorem impl_namesUp.mono : ∀ a0 k, LeO (impl_namesUp.f k a0) (impl_namesUp.f (k + 1) a0) := by
 intro a0 k; have ih0 := impl_namesUp.mono_l k; unfold impl_namesUp.f
 repeat' first
   | (with_reducible exact ih0 _ _ _ _)
   | (with_reducible exact impl_NameOk.mono _ _)
   | (with_reducible exact impl_rising_hs.mono _ _)
   | (with_reducible exact LeO.refl _)
   | (with_reducible exact LeO.none _)
   | (with_reducible refine LeO.ite ?_ ?_)
   | (with_reducible refine LeO.bind ?_ (fun _ => ?_))
   | exact ih0 _ _ _ _
   | exact impl_NameOk.mono _ _
   | exact impl_rising_hs.mono _ _
   | exact LeO.none _
   | refine LeO.ite ?_ ?_
   | refine LeO.bind ?_ (fun _ => ?_)
set_option maxHeartbeats 8000000 in
set_option maxRecDepth 100000 in
theorem impl_namesUp.calls (k : Nat) (A0 : Option Addr) (c0 : Nat) (l0 : List ByteArray) (r : Bool) (w : World) (hr0 : Kd.C Kd.string w A0 l0.length l0) (hc0 : l0.length ≤ c0) (h : impl_namesUp.f k l0 = some r) :
  Calls Try.prog 52 #[.slice A0 l0.length c0] w fun e w' => e = .returned (.bool r) ∧ Drawn0 w w' := by
 have HR0 := Aside0.mk hr0; have HC0 := Aside0.mk hc0; clear hr0 hc0; have H : (impl_namesUp.l0 k l0 l0 (l0.length : Int) 0) = some r := h; clear h; have H' := Aside0.mk H; clear H; go_enter Try.func52, Try.ntmps52; go_wp2; go_loopg [7] k (fun kq v7 w' => ∃ (x7_1 : Int), v7 = .int .i64 x7_1 ∧ Aside0 (impl_namesUp.l0 kq l0 l0 (l0.length : Int) x7_1 = some r) ∧ Aside0 (kq ≤ k) ∧ Drawn0 w w'); (case atStart => exact ⟨(0), zd0, H', ⟨Nat.le_refl _⟩, zd1⟩); case round =>
  clear H'; obtain ⟨x7_1, rfl, HA, HK1, ⟨m1, rfl⟩⟩ := hrel
  cases gk with
  | zero => exact absurd HA.out (by simp [impl_namesUp.l0])
  | succ k1 =>
   have H := HA.out; clear HA; simp only [impl_namesUp.l0] at H; by_cases c2 : x7_1 < (l0.length : Int)
   ·rw [if_pos c2] at H; have c2b0 : decide (x7_1 < (l0.length : Int)) = true := decide_eq_true c2; clear c2; by_cases c3 : 0 ≤ x7_1
    ·rw [if_pos c3] at H; have c3b0 : decide (0 ≤ x7_1) = true := decide_eq_true c3; clear c3; by_cases c4 : x7_1 < (l0.length : Int)
     ·rw [if_pos c4] at H; have c4b0 : decide (x7_1 < (l0.length : Int)) = true := decide_eq_true c4; clear c4; replace H := Option.bind_eq_some_iff.mp H; obtain ⟨t125, A50, H⟩ := H; have A5 := Aside0.mk A50; clear A50; by_cases c6 : t125 = true
      ·subst c6; rw [if_pos rfl] at H; have H' := Aside0.mk H; clear H; have p124 : 0 ≤ (x7_1 : Int) := of_decide_eq_true zd2; have q124 : x7_1 < (l0.length : Int) := of_decide_eq_true zd2; obtain ⟨ad124, e124, hx124_0⟩ := Kd.at_string HR0.out x7_1 p124 q124; cases e124; replace p124 := eq_true p124; replace q124 := eq_true q124; go_wp2_with (first | ((with_reducible refine gate_callee (f := 51) rfl ?_); refine goesL_ (some 12) rfl rfl Try.func51 (by kernel_rfl) rfl #[.string (rdOf ByteArray.empty l0 x7_1)] rfl zd3 ?_; (with_reducible refine (impl_NameOk.calls k1 (rdOf ByteArray.empty l0 x7_1) true _ A5.out).mono ?_); rintro e w' ⟨rfl, ⟨nd, rfl⟩⟩; refine ⟨_, rfl, ?_⟩)); go_roundg k1; (case measure => have := HK1.out; omega); case rel => exact ⟨(wrap64 (x7_1 + 1)), zd0, H', ⟨by have := HK1.out; omega⟩, zd1⟩
      ·replace c6 := Bool.eq_false_iff.mpr c6; subst c6; rw [if_neg (show ¬ (false = true) by decide)] at H; obtain rfl := Option.some.inj H; have p124 : 0 ≤ (x7_1 : Int) := of_decide_eq_true zd2; have q124 : x7_1 < (l0.length : Int) := of_decide_eq_true zd2; obtain ⟨ad124, e124, hx124_0⟩ := Kd.at_string HR0.out x7_1 p124 q124; cases e124; replace p124 := eq_true p124; replace q124 := eq_true q124; go_wp2_with (first | ((with_reducible refine gate_callee (f := 51) rfl ?_); refine goesL_ (some 12) rfl rfl Try.func51 (by kernel_rfl) rfl #[.string (rdOf ByteArray.empty l0 x7_1)] rfl zd3 ?_; (with_reducible refine (impl_NameOk.calls k1 (rdOf ByteArray.empty l0 x7_1) false _ A5.out).mono ?_); rintro e w' ⟨rfl, ⟨nd, rfl⟩⟩; refine ⟨_, rfl, ?_⟩)); go_ret; exact ⟨zd0, zd1⟩
     ·rw [if_neg c4] at H; exact absurd H (by simp)
    ·rw [if_neg c3] at H; exact absurd H (by simp)
   ·rw [if_neg c2] at H; have c2b0 : decide (x7_1 < (l0.length : Int)) = false := decide_eq_false c2; clear c2; replace H := Option.bind_eq_some_iff.mp H; obtain ⟨t126, A70, H⟩ := H; have A7 := Aside0.mk A70; clear A70; obtain rfl := Option.some.inj H; go_wp2_with (first | ((with_reducible refine gate_callee (f := 80) rfl ?_); refine goesL_ (some 16) rfl rfl Try.func80 (by kernel_rfl) rfl #[.slice A0 l0.length c0] rfl zd3 ?_; (with_reducible refine (impl_rising_hs.calls k1 _ _ l0 t126 _ ?side1 ?side2 A7.out).mono ?_); (case side1 => repeat (first | exact HR0.out | (with_reducible refine Kd.C_alloc ?_ _) | (with_reducible refine Kd.C_drewN ?_ _) | (with_reducible refine Kd.C_drew ?_))); (case side2 => exact HC0.out); rintro e w' ⟨rfl, ⟨nd, rfl⟩⟩; refine ⟨_, rfl, ?_⟩)); go_ret; exact ⟨zd0, zd1⟩

end Go.Proofs.Ytnahkojlamficaa.PFnPlanReaches
