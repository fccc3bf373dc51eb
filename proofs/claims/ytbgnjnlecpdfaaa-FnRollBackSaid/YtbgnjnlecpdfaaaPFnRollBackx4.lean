-- Laid by a program of this session: a turned copy of the kit's print, with contracts by hand beside.
import Derived.Test.YtbgnjnlecpdfaaaPFnRollBackx0
namespace Go.Proofs.Ytbgnjnlecpdfaaa.PFnRollBack
open Go.RowKit Go.Proofs.YtbgnjnlecpdfaaaW.PrintWords Go.Proofs.YtbgnjnlecpdfaaaW.PrintLast Go.Proofs.YtbgnjnlecpdfaaaW.PrintMore
theorem ze0 {X : Prop} (h : X := by rfl) : X := h
theorem ze1 {X : Prop} (h : X := by repeat (first | exact Drawn0.refl _ | apply Drawn0.step)) : X := h
theorem ze2 {X : Prop} (h : X := by (with_reducible assumption)) : X := h
theorem ze3 {X : Prop} (h : X := by (simp only [List.map_toArray, List.map_cons, List.map_nil]); first | done | rfl | (simp only [List.length_drop, List.length_take]; rfl)) : X := h
theorem ze4 {X : Prop} (h : X := by have : (13 : Int) < (a0.size : Int) := of_decide_eq_true (by (with_reducible assumption)); omega) : X := h
attribute [local go_sem] max2_int min2_int max_two min_two max_three min_three max_four min_four   -- for this text's walks alone
set_option linter.unusedVariables false
set_option linter.unusedSimpArgs false

/-! ### impl_letter: function 58 -/
def impl_letter.f (a0 : Int) : Option (Bool) := if a0 ≥ 97 then (if a0 ≤ 122 then (some true) else (if a0 ≥ 65 then (some (decide (a0 ≤ 90))) else (some false))) else (if a0 ≥ 65 then (some (decide (a0 ≤ 90))) else (some false))
set_option maxHeartbeats 8000000 in
set_option maxRecDepth 100000 in
theorem impl_letter.calls (a0 : Int) (r : Bool) (w : World) (h : impl_letter.f a0 = some r) :
  Calls Try.prog 58 #[.int .u8 a0] w fun e w' => e = .returned (.bool r) ∧ Drawn0 w w' := by
 have H : (if a0 ≥ 97 then (if a0 ≤ 122 then (some true) else (if a0 ≥ 65 then (some (decide (a0 ≤ 90))) else (some false))) else (if a0 ≥ 65 then (some (decide (a0 ≤ 90))) else (some false))) = some r := h; clear h; by_cases c2 : a0 ≥ 97
 ·rw [if_pos c2] at H; have c2b0 : decide (97 ≤ a0) = true := decide_eq_true c2; clear c2; by_cases c3 : a0 ≤ 122
  ·rw [if_pos c3] at H; have c3b0 : decide (a0 ≤ 122) = true := decide_eq_true c3; clear c3; obtain rfl := Option.some.inj H; go_enter Try.func58, Try.ntmps58; go_wp2; go_ret; exact ⟨ze0, ze1⟩
  ·rw [if_neg c3] at H; have c3b0 : decide (a0 ≤ 122) = false := decide_eq_false c3; clear c3; by_cases c4 : a0 ≥ 65
   ·rw [if_pos c4] at H; have c4b0 : decide (65 ≤ a0) = true := decide_eq_true c4; clear c4; obtain rfl := Option.some.inj H; go_enter Try.func58, Try.ntmps58; go_wp2; go_ret; exact ⟨ze0, ze1⟩
   ·rw [if_neg c4] at H; have c4b0 : decide (65 ≤ a0) = false := decide_eq_false c4; clear c4; obtain rfl := Option.some.inj H; go_enter Try.func58, Try.ntmps58; go_wp2; go_ret; exact ⟨ze0, ze1⟩
 ·rw [if_neg c2] at H; have c2b0 : decide (97 ≤ a0) = false := decide_eq_false c2; clear c2; by_cases c5 : a0 ≥ 65
  ·rw [if_pos c5] at H; have c5b0 : decide (65 ≤ a0) = true := decide_eq_true c5; clear c5; obtain rfl := Option.some.inj H; go_enter Try.func58, Try.ntmps58; go_wp2; go_ret; exact ⟨ze0, ze1⟩
  ·rw [if_neg c5] at H; have c5b0 : decide (65 ≤ a0) = false := decide_eq_false c5; clear c5; obtain rfl := Option.some.inj H; go_enter Try.func58, Try.ntmps58; go_wp2; go_ret; exact ⟨ze0, ze1⟩

/-! ### impl_digit: function 59 -/
def impl_digit.f (a0 : Int) : Option (Bool) := if a0 ≥ 48 then (some (decide (a0 ≤ 57))) else (some false)
set_option maxHeartbeats 8000000 in
set_option maxRecDepth 100000 in
theorem impl_digit.calls (a0 : Int) (r : Bool) (w : World) (h : impl_digit.f a0 = some r) :
  Calls Try.prog 59 #[.int .u8 a0] w fun e w' => e = .returned (.bool r) ∧ Drawn0 w w' := by
 have H : (if a0 ≥ 48 then (some (decide (a0 ≤ 57))) else (some false)) = some r := h; clear h; by_cases c2 : a0 ≥ 48
 ·rw [if_pos c2] at H; have c2b0 : decide (48 ≤ a0) = true := decide_eq_true c2; clear c2; obtain rfl := Option.some.inj H; go_enter Try.func59, Try.ntmps59; go_wp2; go_ret; exact ⟨ze0, ze1⟩
 ·rw [if_neg c2] at H; have c2b0 : decide (48 ≤ a0) = false := decide_eq_false c2; clear c2; obtain rfl := Option.some.inj H; go_enter Try.func59, Try.ntmps59; go_wp2; go_ret; exact ⟨ze0, ze1⟩

/-! ### strings_ContainsRune: function 60 -/
set_option maxRecDepth 100000 in
set_option maxHeartbeats 2000000 in
theorem cr_stringslite_calls (s : ByteArray) (c : Int) (w : World) :
    Calls Try.prog 77 #[.string s, .int .u8 c] w fun e w' => e = .returned (.int .i64 (Lib.indexByte s.data.toList c.toNat.toUInt8)) ∧ w' = w := by
  go_enter Try.func77, Try.ntmps77; go_wp2; rw [run_callFunc_extern Try.func78 (by kernel_rfl) (by kernel_rfl) (by kernel_rfl) (e := Extern.BytealgIndexByte.indexByte) (by kernel_rfl), Lib.run_indexByteString]; simp only [Result.andThen]; rw [Oper.upon_value]; go_wp2; go_ret; exact ⟨rfl, rfl⟩
set_option maxRecDepth 100000 in
set_option maxHeartbeats 2000000 in
theorem cr_IndexByte_calls (s : ByteArray) (c : Int) (w : World) :
    Calls Try.prog 70 #[.string s, .int .u8 c] w fun e w' => e = .returned (.int .i64 (Lib.indexByte s.data.toList c.toNat.toUInt8)) ∧ w' = w := by
  go_enter Try.func70, Try.ntmps70; go_wp2_with (go_at_call 77; refine (cr_stringslite_calls _ _ _).mono ?_; rintro e w' ⟨rfl, rfl⟩); go_ret; exact ⟨rfl, rfl⟩
set_option maxRecDepth 100000 in
set_option maxHeartbeats 2000000 in
theorem cr_ascii (s : ByteArray) (c : Int) (w : World) (h0 : 0 ≤ c) (h1 : c < 128) :
    Calls Try.prog 69 #[.string s, .int .i32 c] w fun e w' => e = .returned (.int .i64 (Lib.indexByte s.data.toList c.toNat.toUInt8)) ∧ w' = w := by
  have hw : IntKind.u8.wrap c = c := by rw [IntKind.wrap_u8]; omega
  go_enter Try.func69, Try.ntmps69; go_wp2_with (go_at_call 70; refine (cr_IndexByte_calls _ _ _).mono ?_; rintro e w' ⟨rfl, rfl⟩); go_ret; exact ⟨rfl, rfl⟩
set_option maxRecDepth 100000 in
set_option maxHeartbeats 2000000 in
theorem cr_high (c : Int) (w : World) (h0 : 128 ≤ c) (h1 : c < 256) :
    Calls Try.prog 69 #[.string ⟨#[45, 95, 46, 43]⟩, .int .i32 c] w fun e w' => e = .returned (.int .i64 (-1)) ∧ ∃ n, w' = w.drewN n := by
  obtain ⟨rs, hrs⟩ : ∃ rs, rs = Utf8.encode c := ⟨_, rfl⟩; have hv : Utf8.valid c = true := by rw [validRune_eq]; simp [validRune]; omega
  obtain ⟨g1, g2, g3⟩ := encode_facts c hv h0; rw [← hrs] at g1 g2 g3; have hz : rs.size = 2 := by
    rw [hrs]; unfold Utf8.encode; have hc : ¬ c.toNat < 128 := by omega
    have hc2 : c.toNat < 2048 := by omega
    simp only [hv, if_true, hc, if_false, hc2]; rfl
  have hlt : 1 < rs.size := by omega
  have g4 : 128 ≤ (rs[1]'hlt).toNat := by have := g3 (by omega); simpa [hz] using this
  go_enter Try.func69, Try.ntmps69; have q1 : (c == 65533) = false := by simp; omega
  have q2 : c < 55296 := by omega
  have q3 : 0 ≤ c := by omega
  have q4 : ¬ c < 128 := by omega
  clear hv g1 g2 g3; have HE : Utf8.encode c = rs := hrs.symm; clear hrs; go_wp2_with go_in; go_step3; go_wp2_with fail; refine wp_loop_rounds 1 ?_; rw [rounds_succ]; go_wp2_with fail; go_step3; go_wp2_with fail; have q6 : ((((⟨#[45, 95, 46, 43]⟩ : ByteArray)[1]'(by decide)).toNat : Int) != ((rs[1]'hlt).toNat : Int)) = true := by
    have : ((⟨#[45, 95, 46, 43]⟩ : ByteArray)[1]'(by decide)).toNat = 95 := rfl; rw [this]; simp; omega
  go_quiet (fail); go_wp2_with fail; have q7 : IntKind.i64.wrap 2 = 2 := by rw [IntKind.wrap_i64]; rfl
  go_quiet ((go_at_call 70; refine (cr_IndexByte_calls _ _ _).mono ?_; rintro e w' ⟨rfl, rfl⟩; exact ⟨rfl, _, rfl⟩)); have q9 : Lib.indexByte [46, 43] (rs[1]'hlt) < 0 := by
    have e1 : ((46 : UInt8) == (rs[1]'hlt)) = false := by
      rw [beq_eq_false_iff_ne]; intro h; rw [← h] at g4; exact absurd g4 (by decide)
    have e2 : ((43 : UInt8) == (rs[1]'hlt)) = false := by
      rw [beq_eq_false_iff_ne]; intro h; rw [← h] at g4; exact absurd g4 (by decide)
    simp [Lib.indexByte, e1, e2]
  go_wp2_with fail; rw [Exit.noGoto_ret]; go_wp2_with fail; rw [Exit.noGoto_ret]; go_ret; exact ⟨rfl, _, by rfl⟩
theorem cr_ix : ∀ c : Fin 128, decide (Lib.indexByte [45, 95, 46, 43] ((c.val : Int)).toNat.toUInt8 ≥ 0) = (c.val == 45 || c.val == 95 || c.val == 46 || c.val == 43) := by decide +kernel
/-- At the one text that the program asks, and at a byte. -/
def strings_ContainsRune.f (a0 : ByteArray) (a1 : Int) : Option (Bool) := if a0.toList = [45, 95, 46, 43] then if 0 ≤ a1 ∧ a1 < 256 then some (a1 == 45 || a1 == 95 || a1 == 46 || a1 == 43) else none else none
set_option maxRecDepth 100000 in
set_option maxHeartbeats 2000000 in
theorem strings_ContainsRune.calls (a0 : ByteArray) (a1 : Int) (r : Bool) (w : World) (h : strings_ContainsRune.f a0 a1 = some r) :
    Calls Try.prog 60 #[.string a0, .int .i32 a1] w fun e w' => e = .returned (.bool r) ∧ Drawn0 w w' := by
  unfold strings_ContainsRune.f at h; by_cases h1 : a0.toList = [45, 95, 46, 43]
  · obtain rfl : a0 = ⟨#[45, 95, 46, 43]⟩ := by
      have : a0.data.toList = [45, 95, 46, 43] := by rw [← Lib.toList_data]; exact h1
      cases a0; simp at this; simp [← this]
    rw [if_pos h1] at h; by_cases h2 : 0 ≤ a1 ∧ a1 < 256
    · rw [if_pos h2] at h; obtain rfl := Option.some.inj h; obtain ⟨h3, h4⟩ := h2; clear h h1; by_cases h5 : a1 < 128
      · have hr : decide (Lib.indexByte (⟨#[45, 95, 46, 43]⟩ : ByteArray).data.toList a1.toNat.toUInt8 ≥ 0) = (a1 == 45 || a1 == 95 || a1 == 46 || a1 == 43) := by
          have := cr_ix ⟨a1.toNat, by omega⟩; simp only [Int.toNat_of_nonneg h3] at this; rw [show (⟨#[45, 95, 46, 43]⟩ : ByteArray).data.toList = [45, 95, 46, 43] from rfl, this]; obtain ⟨n, rfl⟩ := Int.eq_ofNat_of_zero_le h3; simp only [Int.toNat_natCast]; rw [Bool.eq_iff_iff]; simp; omega
        rw [← hr]; generalize hq : Lib.indexByte (⟨#[45, 95, 46, 43]⟩ : ByteArray).data.toList a1.toNat.toUInt8 = q; have hq := Aside0.mk hq; clear hr; go_enter Try.func60, Try.ntmps60; go_wp2_with (go_at_call 69; refine (cr_ascii _ _ _ h3 h5).mono ?_; rintro e w' ⟨rfl, rfl⟩; rw [hq.out]); go_ret; exact ⟨rfl, Drawn0.refl _⟩
      · have hr : (a1 == 45 || a1 == 95 || a1 == 46 || a1 == 43) = false := by simp; omega
        rw [hr]; have h6 : 128 ≤ a1 := by omega
        clear hr h5; go_enter Try.func60, Try.ntmps60; go_wp2_with (go_at_call 69; refine (cr_high _ _ h6 h4).mono ?_; rintro e w' ⟨rfl, n, rfl⟩); go_ret; exact ⟨rfl, ⟨_, rfl⟩⟩
    · rw [if_neg h2] at h; exact absurd h (by simp)
  · rw [if_neg h1] at h; exact absurd h (by simp)

/-! ### impl_NameOk: function 34 -/
mutual
def impl_NameOk.j0 : Nat → ByteArray → Bool → Option (Bool)
 | 0, _, _ => none
 | k + 1, x0, x17 => if x17 = true then (some false) else (impl_NameOk.l0 k x0 (x0.size : Int) 0)
def impl_NameOk.l0 : Nat → ByteArray → Int → Int → Option (Bool)
 | 0, _, _, _ => none
 | k + 1, x0, x19, x20 => if x20 < x19 then (if 0 ≤ x20 then (if x20 < (x0.size : Int) then ((impl_letter.f (bt x0 x20)).bind fun t120 => (if t120 = true then (impl_NameOk.l0 k x0 x19 (wrap64 (x20 + 1))) else ((impl_digit.f (bt x0 x20)).bind fun t121 => (if t121 = true then (impl_NameOk.l0 k x0 x19 (wrap64 (x20 + 1))) else ((strings_ContainsRune.f (⟨#[45, 95, 46, 43]⟩ : ByteArray) (wrap32 (bt x0 x20))).bind fun t122 => (if t122 = true then (impl_NameOk.l0 k x0 x19 (wrap64 (x20 + 1))) else (some false))))))) else (none)) else (none)) else (some true)
end
def impl_NameOk.f (k : Nat) (a0 : ByteArray) : Option (Bool) := if (a0.size : Int) < 1 then (impl_NameOk.j0 k a0 true) else (if (a0.size : Int) > 60 then (impl_NameOk.j0 k a0 true) else (if 0 < (a0.size : Int) then (impl_NameOk.j0 k a0 ((bt a0 0) == 46)) else (none)))
theorem impl_NameOk.mono_l : ∀ k, (∀ y0 y1, LeO (impl_NameOk.j0 k y0 y1) (impl_NameOk.j0 (k + 1) y0 y1)) ∧ (∀ y0 y1 y2, LeO (impl_NameOk.l0 k y0 y1 y2) (impl_NameOk.l0 (k + 1) y0 y1 y2))
 | 0 => ⟨fun _ _ r h => by simp [impl_NameOk.j0] at h, fun _ _ _ r h => by simp [impl_NameOk.l0] at h⟩
 | k + 1 => by
  obtain ⟨ih0, ih1⟩ := impl_NameOk.mono_l k; refine ⟨?_, ?_⟩ <;> intros <;> (first | unfold impl_NameOk.j0 | unfold impl_NameOk.l0) <;>
   repeat' first
   | (with_reducible exact ih0 _ _)
   | (with_reducible exact ih1 _ _ _)
   | (with_reducible exact LeO.refl _)
   | (with_reducible exact LeO.none _)
   | (with_reducible refine LeO.ite ?_ ?_)
   | (with_reducible refine LeO.bind ?_ (fun _ => ?_))
   | exact ih0 _ _
   | exact ih1 _ _ _
   | exact LeO.none _
   | refine LeO.ite ?_ ?_
   | refine LeO.bind ?_ (fun _ => ?_)
theorem impl_NameOk.mono : ∀ a0 k, LeO (impl_NameOk.f k a0) (impl_NameOk.f (k + 1) a0) := by
 intro a0 k; obtain ⟨ih0, ih1⟩ := impl_NameOk.mono_l k; unfold impl_NameOk.f
 repeat' first
   | (with_reducible exact ih0 _ _)
   | (with_reducible exact ih1 _ _ _)
   | (with_reducible exact LeO.refl _)
   | (with_reducible exact LeO.none _)
   | (with_reducible refine LeO.ite ?_ ?_)
   | (with_reducible refine LeO.bind ?_ (fun _ => ?_))
   | exact ih0 _ _
   | exact ih1 _ _ _
   | exact LeO.none _
   | refine LeO.ite ?_ ?_
   | refine LeO.bind ?_ (fun _ => ?_)
set_option maxHeartbeats 8000000 in
set_option maxRecDepth 100000 in
theorem impl_NameOk.calls (k : Nat) (a0 : ByteArray) (r : Bool) (w : World) (h : impl_NameOk.f k a0 = some r) :
  Calls Try.prog 34 #[.string a0] w fun e w' => e = .returned (.bool r) ∧ Drawn0 w w' := by
 have H : (if (a0.size : Int) < 1 then (impl_NameOk.j0 k a0 true) else (if (a0.size : Int) > 60 then (impl_NameOk.j0 k a0 true) else (if 0 < (a0.size : Int) then (impl_NameOk.j0 k a0 ((bt a0 0) == 46)) else (none)))) = some r := h; clear h; have HC2 := Aside0.mk H; clear H; go_enter Try.func34, Try.ntmps34; go_upto_region 1 with (fail); go_cut [17] (fun v17 wc => ∃ (kq : Nat) (x17_1 : Bool), v17 = .bool x17_1 ∧ Aside0 (impl_NameOk.j0 kq a0 x17_1 = some r) ∧ Aside0 (kq ≤ k) ∧ Drawn0 w wc); case first =>
  have H := HC2.out; clear HC2; by_cases c3 : (a0.size : Int) < 1
  ·rw [if_pos c3] at H; have c3b0 : decide ((a0.size : Int) < 1) = true := decide_eq_true c3; have c3b1 : decide (a0.size < 1) = true := decide_eq_true (by omega); clear c3; (skip); have H' := Aside0.mk H; clear H; go_wp2; go_meet; case rel => exact ⟨_, (true), ze0, H', ⟨by omega⟩, ze1⟩
  ·rw [if_neg c3] at H; have c3b0 : decide ((a0.size : Int) < 1) = false := decide_eq_false c3; have c3b1 : decide (a0.size < 1) = false := decide_eq_false (by omega); clear c3; (skip); by_cases c4 : (a0.size : Int) > 60
   ·rw [if_pos c4] at H; have c4b0 : decide (60 < (a0.size : Int)) = true := decide_eq_true c4; have c4b1 : decide (60 < a0.size) = true := decide_eq_true (by omega); clear c4; have H' := Aside0.mk H; clear H; go_wp2; go_meet; case rel => exact ⟨_, (true), ze0, H', ⟨by omega⟩, ze1⟩
   ·rw [if_neg c4] at H; have c4b0 : decide (60 < (a0.size : Int)) = false := decide_eq_false c4; have c4b1 : decide (60 < a0.size) = false := decide_eq_false (by omega); clear c4; by_cases c5 : 0 < (a0.size : Int)
    ·rw [if_pos c5] at H; have c5b0 : decide (0 < (a0.size : Int)) = true := decide_eq_true c5; have c5b1 : decide (0 < a0.size) = true := decide_eq_true (by omega); clear c5; have H' := Aside0.mk H; clear H; have p6 : 0 ≤ (0 : Int) := (by omega); have q6 : 0 < a0.size := (by have : (0 : Int) < (a0.size : Int) := of_decide_eq_true (by (with_reducible assumption)); omega); have hx6 : ∀ h : 0 < a0.size, ((a0[0]'h).toNat : Int) = bt a0 0 := bt_at a0 0; clear p6; have qi6 : (0 < (a0.size : Int)) = True := eq_true (of_decide_eq_true ze2); replace q6 := eq_true q6; go_wp2; go_meet; case rel => exact ⟨_, (((bt a0 0) == 46)), ze0, H', ⟨by omega⟩, ze1⟩
    ·rw [if_neg c5] at H; exact absurd H (by simp)
 case rest =>
  clear HC2; obtain ⟨kq, x17_1, rfl, HA, HJ1, ⟨mc1, rfl⟩⟩ := hcut
  cases kq with
  | zero => exact absurd HA.out (by simp [impl_NameOk.j0])
  | succ kj1 =>
   have H := HA.out; clear HA; simp only [impl_NameOk.j0] at H; by_cases c7 : x17_1 = true
   ·subst c7; rw [if_pos rfl] at H; obtain rfl := Option.some.inj H; go_wp2; go_ret; exact ⟨ze0, ze1⟩
   ·replace c7 := Bool.eq_false_iff.mpr c7; subst c7; rw [if_neg (show ¬ (false = true) by decide)] at H; have H' := Aside0.mk H; clear H; go_wp2; go_loopg [20] kj1 (fun kq v20 w' => ∃ (x20_2 : Int), v20 = .int .i64 x20_2 ∧ Aside0 (impl_NameOk.l0 kq a0 (a0.size : Int) x20_2 = some r) ∧ Aside0 (kq ≤ kj1) ∧ Drawn0 w w'); (case atStart => exact ⟨(0), ze0, H', ⟨Nat.le_refl _⟩, ze1⟩); case round =>
     clear H'; obtain ⟨x20_2, rfl, HA, HK2, ⟨m2, rfl⟩⟩ := hrel
     cases gk with
     | zero => exact absurd HA.out (by simp [impl_NameOk.l0])
     | succ k2 =>
      have H := HA.out; clear HA; simp only [impl_NameOk.l0] at H; by_cases c8 : x20_2 < (a0.size : Int)
      ·rw [if_pos c8] at H; have c8b0 : decide (x20_2 < (a0.size : Int)) = true := decide_eq_true c8; clear c8; by_cases c9 : 0 ≤ x20_2
       ·rw [if_pos c9] at H; have c9b0 : decide (0 ≤ x20_2) = true := decide_eq_true c9; clear c9; by_cases c10 : x20_2 < (a0.size : Int)
        ·rw [if_pos c10] at H; have c10b0 : decide (x20_2 < (a0.size : Int)) = true := decide_eq_true c10; clear c10; replace H := Option.bind_eq_some_iff.mp H; obtain ⟨t120, A120, H⟩ := H; have A12 := Aside0.mk A120; clear A120; by_cases c13 : t120 = true
         ·subst c13; rw [if_pos rfl] at H; have H' := Aside0.mk H; clear H; have p11 : 0 ≤ (x20_2 : Int) := of_decide_eq_true ze2; have q11 : x20_2 < (a0.size : Int) := of_decide_eq_true ze2; have hx11 := bt_at a0 x20_2; replace p11 := eq_true p11; replace q11 := eq_true q11; go_wp2_with (first | ((with_reducible refine gate_callee (f := 58) rfl ?_); refine goesL_ (some 27) rfl rfl Try.func58 (by kernel_rfl) rfl #[.int .u8 (bt a0 x20_2)] rfl ze3 ?_; (with_reducible refine (impl_letter.calls (bt a0 x20_2) true _ A12.out).mono ?_); rintro e w' ⟨rfl, ⟨nd, rfl⟩⟩; refine ⟨_, rfl, ?_⟩)); go_roundg k2; (case measure => have := HJ1.out; have := HK2.out; omega); case rel => exact ⟨(wrap64 (x20_2 + 1)), ze0, H', ⟨by have := HJ1.out; have := HK2.out; omega⟩, ze1⟩
         ·replace c13 := Bool.eq_false_iff.mpr c13; subst c13; rw [if_neg (show ¬ (false = true) by decide)] at H; replace H := Option.bind_eq_some_iff.mp H; obtain ⟨t121, A140, H⟩ := H; have A14 := Aside0.mk A140; clear A140; by_cases c15 : t121 = true
          ·subst c15; rw [if_pos rfl] at H; have H' := Aside0.mk H; clear H; have p11 : 0 ≤ (x20_2 : Int) := of_decide_eq_true ze2; have q11 : x20_2 < (a0.size : Int) := of_decide_eq_true ze2; have hx11 := bt_at a0 x20_2; replace p11 := eq_true p11; replace q11 := eq_true q11; go_wp2_with (first | ((with_reducible refine gate_callee (f := 58) rfl ?_); refine goesL_ (some 27) rfl rfl Try.func58 (by kernel_rfl) rfl #[.int .u8 (bt a0 x20_2)] rfl ze3 ?_; (with_reducible refine (impl_letter.calls (bt a0 x20_2) false _ A12.out).mono ?_); rintro e w' ⟨rfl, ⟨nd, rfl⟩⟩; refine ⟨_, rfl, ?_⟩) | (go_at_call 59; (with_reducible refine (impl_digit.calls (bt a0 x20_2) true _ A14.out).mono ?_); rintro e w' ⟨rfl, ⟨nd, rfl⟩⟩)); go_roundg k2; (case measure => have := HJ1.out; have := HK2.out; omega); case rel => exact ⟨(wrap64 (x20_2 + 1)), ze0, H', ⟨by have := HJ1.out; have := HK2.out; omega⟩, ze1⟩
          ·replace c15 := Bool.eq_false_iff.mpr c15; subst c15; rw [if_neg (show ¬ (false = true) by decide)] at H; replace H := Option.bind_eq_some_iff.mp H; obtain ⟨t122, A160, H⟩ := H; have A16 := Aside0.mk A160; clear A160; by_cases c17 : t122 = true
           ·subst c17; rw [if_pos rfl] at H; have H' := Aside0.mk H; clear H; have p11 : 0 ≤ (x20_2 : Int) := of_decide_eq_true ze2; have q11 : x20_2 < (a0.size : Int) := of_decide_eq_true ze2; have hx11 := bt_at a0 x20_2; replace p11 := eq_true p11; replace q11 := eq_true q11; go_wp2_with (first | ((with_reducible refine gate_callee (f := 58) rfl ?_); refine goesL_ (some 27) rfl rfl Try.func58 (by kernel_rfl) rfl #[.int .u8 (bt a0 x20_2)] rfl ze3 ?_; (with_reducible refine (impl_letter.calls (bt a0 x20_2) false _ A12.out).mono ?_); rintro e w' ⟨rfl, ⟨nd, rfl⟩⟩; refine ⟨_, rfl, ?_⟩) | (go_at_call 59; (with_reducible refine (impl_digit.calls (bt a0 x20_2) false _ A14.out).mono ?_); rintro e w' ⟨rfl, ⟨nd, rfl⟩⟩) | (go_at_call 60; (with_reducible refine (strings_ContainsRune.calls (⟨#[45, 95, 46, 43]⟩ : ByteArray) (wrap32 (bt a0 x20_2)) true _ A16.out).mono ?_); rintro e w' ⟨rfl, ⟨nd, rfl⟩⟩)); go_roundg k2; (case measure => have := HJ1.out; have := HK2.out; omega); case rel => exact ⟨(wrap64 (x20_2 + 1)), ze0, H', ⟨by have := HJ1.out; have := HK2.out; omega⟩, ze1⟩
           ·replace c17 := Bool.eq_false_iff.mpr c17; subst c17; rw [if_neg (show ¬ (false = true) by decide)] at H; obtain rfl := Option.some.inj H; have p11 : 0 ≤ (x20_2 : Int) := of_decide_eq_true ze2; have q11 : x20_2 < (a0.size : Int) := of_decide_eq_true ze2; have hx11 := bt_at a0 x20_2; replace p11 := eq_true p11; replace q11 := eq_true q11; go_wp2_with (first | ((with_reducible refine gate_callee (f := 58) rfl ?_); refine goesL_ (some 27) rfl rfl Try.func58 (by kernel_rfl) rfl #[.int .u8 (bt a0 x20_2)] rfl ze3 ?_; (with_reducible refine (impl_letter.calls (bt a0 x20_2) false _ A12.out).mono ?_); rintro e w' ⟨rfl, ⟨nd, rfl⟩⟩; refine ⟨_, rfl, ?_⟩) | (go_at_call 59; (with_reducible refine (impl_digit.calls (bt a0 x20_2) false _ A14.out).mono ?_); rintro e w' ⟨rfl, ⟨nd, rfl⟩⟩) | (go_at_call 60; (with_reducible refine (strings_ContainsRune.calls (⟨#[45, 95, 46, 43]⟩ : ByteArray) (wrap32 (bt a0 x20_2)) false _ A16.out).mono ?_); rintro e w' ⟨rfl, ⟨nd, rfl⟩⟩)); go_ret; exact ⟨ze0, ze1⟩
        ·rw [if_neg c10] at H; exact absurd H (by simp)
       ·rw [if_neg c9] at H; exact absurd H (by simp)
      ·rw [if_neg c8] at H; have c8b0 : decide (x20_2 < (a0.size : Int)) = false := decide_eq_false c8; clear c8; obtain rfl := Option.some.inj H; go_wp2; go_ret; exact ⟨ze0, ze1⟩

/-! ### strings_IndexByte: function 70 -/
set_option maxRecDepth 100000 in
set_option maxHeartbeats 2000000 in
theorem stringslite_IndexByte_calls (s : ByteArray) (c : Int) (w : World) :
    Calls Try.prog 77 #[.string s, .int .u8 c] w fun e w' => e = .returned (.int .i64 (Lib.indexByte s.data.toList c.toNat.toUInt8)) ∧ w' = w := by
  go_enter Try.func77, Try.ntmps77; go_wp2; rw [run_callFunc_extern Try.func78 (by kernel_rfl) (by kernel_rfl) (by kernel_rfl) (e := Extern.BytealgIndexByte.indexByte) (by kernel_rfl), Lib.run_indexByteString]; simp only [Result.andThen]; rw [Oper.upon_value]; go_wp2; go_ret; exact ⟨rfl, rfl⟩
def strings_IndexByte.f (a0 : ByteArray) (a1 : Int) : Option (Int) := some (Lib.indexByte a0.data.toList a1.toNat.toUInt8)
set_option maxRecDepth 100000 in
set_option maxHeartbeats 2000000 in
theorem strings_IndexByte.calls (a0 : ByteArray) (a1 : Int) (r : Int) (w : World) (h : strings_IndexByte.f a0 a1 = some r) :
    Calls Try.prog 70 #[.string a0, .int .u8 a1] w fun e w' => e = .returned (.int .i64 r) ∧ Drawn0 w w' := by
  obtain rfl : Lib.indexByte a0.data.toList a1.toNat.toUInt8 = r := by simpa [strings_IndexByte.f] using h
  clear h; go_enter Try.func70, Try.ntmps70; go_wp2_with (go_at_call 77; refine (stringslite_IndexByte_calls _ _ _).mono ?_; rintro e w' ⟨rfl, rfl⟩); go_ret; exact ⟨rfl, Drawn0.refl _⟩

/-! ### impl_ReadWord32: function 61 -/
def impl_ReadWord32.l0 : Nat → ByteArray → Int → Int → Int → Option (Int × Bool)
 | 0, _, _, _, _ => none
 | k + 1, x0, x4, x11, x12 => if x12 < x11 then (if 0 ≤ x12 then (if x12 < (x0.size : Int) then ((strings_IndexByte.f (⟨#[48, 49, 50, 51, 52, 53, 54, 55, 56, 57, 97, 98, 99, 100, 102, 103, 104, 105, 106, 107, 108, 109, 110, 112, 113, 114, 115, 118, 119, 120, 121, 122]⟩ : ByteArray) (bt x0 x12)).bind fun t123 => (if t123 < 0 then (some (0, false)) else (if x12 = 0 then (if t123 > 15 then (some (0, false)) else (impl_ReadWord32.l0 k x0 (Go.bits .or .u64 (IntKind.u64.wrap (x4 * 32)) (IntKind.u64.wrap (t123))) x11 (wrap64 (x12 + 1)))) else (impl_ReadWord32.l0 k x0 (Go.bits .or .u64 (IntKind.u64.wrap (x4 * 32)) (IntKind.u64.wrap (t123))) x11 (wrap64 (x12 + 1)))))) else (none)) else (none)) else (some (x4, true))
def impl_ReadWord32.f (k : Nat) (a0 : ByteArray) : Option (Int × Bool) := if (a0.size : Int) = 13 then (impl_ReadWord32.l0 k a0 0 (a0.size : Int) 0) else (some (0, false))
theorem impl_ReadWord32.mono_l : ∀ k, (∀ y0 y1 y2 y3, LeO (impl_ReadWord32.l0 k y0 y1 y2 y3) (impl_ReadWord32.l0 (k + 1) y0 y1 y2 y3))
 | 0 => fun _ _ _ _ r h => by simp [impl_ReadWord32.l0] at h
 | k + 1 => by
  have ih0 := impl_ReadWord32.mono_l k
  ·intro y0 y1 y2 y3; unfold impl_ReadWord32.l0
   repeat' first
   | (with_reducible exact ih0 _ _ _ _)
   | (with_reducible exact LeO.refl _)
   | (with_reducible exact LeO.none _)
   | (with_reducible refine LeO.ite ?_ ?_)
   | (with_reducible refine LeO.bind ?_ (fun _ => ?_))
   | exact ih0 _ _ _ _
   | exact LeO.none _
   | refine LeO.ite ?_ ?_
   | refine LeO.bind ?_ (fun _ => ?_)
theorem impl_ReadWord32.mono : ∀ a0 k, LeO (impl_ReadWord32.f k a0) (impl_ReadWord32.f (k + 1) a0) := by
 intro a0 k; have ih0 := impl_ReadWord32.mono_l k; unfold impl_ReadWord32.f
 repeat' first
   | (with_reducible exact ih0 _ _ _ _)
   | (with_reducible exact LeO.refl _)
   | (with_reducible exact LeO.none _)
   | (with_reducible refine LeO.ite ?_ ?_)
   | (with_reducible refine LeO.bind ?_ (fun _ => ?_))
   | exact ih0 _ _ _ _
   | exact LeO.none _
   | refine LeO.ite ?_ ?_
   | refine LeO.bind ?_ (fun _ => ?_)
set_option maxHeartbeats 8000000 in
set_option maxRecDepth 100000 in
theorem impl_ReadWord32.calls (k : Nat) (a0 : ByteArray) (r1 : Int) (r2 : Bool) (w : World) (h : impl_ReadWord32.f k a0 = some (r1, r2)) :
  Calls Try.prog 61 #[.string a0] w fun e w' => e = .returned (.tuple #[.int .u64 r1, .bool r2]) ∧ Drawn0 w w' := by
 have H : (if (a0.size : Int) = 13 then (impl_ReadWord32.l0 k a0 0 (a0.size : Int) 0) else (some (0, false))) = some (r1, r2) := h; clear h; by_cases c2 : (a0.size : Int) = 13
 ·rw [if_pos c2] at H; have c2b0 : ((a0.size : Int) == 13) = true := beq_iff_eq.mpr c2; have c2b1 : ((a0.size : Int) != 13) = false := bne_eq_false_iff_eq.mpr c2; clear c2; have H' := Aside0.mk H; clear H; go_enter Try.func61, Try.ntmps61; go_wp2; go_loopg [4, 12] k (fun kq v4 v12 w' => ∃ (x4_1 : Int) (x12_1 : Int), v4 = .int .u64 x4_1 ∧ v12 = .int .i64 x12_1 ∧ Aside0 (impl_ReadWord32.l0 kq a0 x4_1 (a0.size : Int) x12_1 = some (r1, r2)) ∧ Aside0 (kq ≤ k) ∧ Drawn0 w w'); (case atStart => exact ⟨(0), (0), ze0, ze0, H', ⟨Nat.le_refl _⟩, ze1⟩); case round =>
   clear H'; clear c2b0 c2b1; obtain ⟨x4_1, x12_1, rfl, rfl, HA, HK1, ⟨m1, rfl⟩⟩ := hrel
   cases gk with
   | zero => exact absurd HA.out (by simp [impl_ReadWord32.l0])
   | succ k1 =>
    have H := HA.out; clear HA; simp only [impl_ReadWord32.l0] at H; by_cases c3 : x12_1 < (a0.size : Int)
    ·rw [if_pos c3] at H; have c3b0 : decide (x12_1 < (a0.size : Int)) = true := decide_eq_true c3; clear c3; by_cases c4 : 0 ≤ x12_1
     ·rw [if_pos c4] at H; have c4b0 : decide (0 ≤ x12_1) = true := decide_eq_true c4; clear c4; by_cases c5 : x12_1 < (a0.size : Int)
      ·rw [if_pos c5] at H; have c5b0 : decide (x12_1 < (a0.size : Int)) = true := decide_eq_true c5; clear c5; replace H := Option.bind_eq_some_iff.mp H; obtain ⟨t123, A70, H⟩ := H; have A7 := Aside0.mk A70; clear A70; by_cases c8 : t123 < 0
       ·rw [if_pos c8] at H; have c8b0 : decide (t123 < 0) = true := decide_eq_true c8; clear c8; simp only [Option.some.injEq, Prod.mk.injEq] at H; obtain ⟨rfl, rfl⟩ := H; have p6 : 0 ≤ (x12_1 : Int) := of_decide_eq_true ze2; have q6 : x12_1 < (a0.size : Int) := of_decide_eq_true ze2; have hx6 := bt_at a0 x12_1; replace p6 := eq_true p6; replace q6 := eq_true q6; go_wp2_with (first | ((with_reducible refine gate_callee (f := 70) rfl ?_); refine goesL_ (some 18) rfl rfl Try.func70 (by kernel_rfl) rfl #[.string (⟨#[48, 49, 50, 51, 52, 53, 54, 55, 56, 57, 97, 98, 99, 100, 102, 103, 104, 105, 106, 107, 108, 109, 110, 112, 113, 114, 115, 118, 119, 120, 121, 122]⟩ : ByteArray), .int .u8 (bt a0 x12_1)] rfl ze3 ?_; (with_reducible refine (strings_IndexByte.calls (⟨#[48, 49, 50, 51, 52, 53, 54, 55, 56, 57, 97, 98, 99, 100, 102, 103, 104, 105, 106, 107, 108, 109, 110, 112, 113, 114, 115, 118, 119, 120, 121, 122]⟩ : ByteArray) (bt a0 x12_1) t123 _ A7.out).mono ?_); rintro e w' ⟨rfl, ⟨nd, rfl⟩⟩; refine ⟨_, rfl, ?_⟩)); go_ret2; exact ⟨ze0, ze1⟩
       ·rw [if_neg c8] at H; have c8b0 : decide (t123 < 0) = false := decide_eq_false c8; clear c8; by_cases c9 : x12_1 = 0
        ·rw [if_pos c9] at H; have c9b0 : (x12_1 == 0) = true := beq_iff_eq.mpr c9; have c9b1 : (x12_1 != 0) = false := bne_eq_false_iff_eq.mpr c9; clear c9; by_cases c10 : t123 > 15
         ·rw [if_pos c10] at H; have c10b0 : decide (15 < t123) = true := decide_eq_true c10; clear c10; simp only [Option.some.injEq, Prod.mk.injEq] at H; obtain ⟨rfl, rfl⟩ := H; have p6 : 0 ≤ (x12_1 : Int) := of_decide_eq_true ze2; have q6 : x12_1 < (a0.size : Int) := of_decide_eq_true ze2; have hx6 := bt_at a0 x12_1; replace p6 := eq_true p6; replace q6 := eq_true q6; go_wp2_with (first | ((with_reducible refine gate_callee (f := 70) rfl ?_); refine goesL_ (some 18) rfl rfl Try.func70 (by kernel_rfl) rfl #[.string (⟨#[48, 49, 50, 51, 52, 53, 54, 55, 56, 57, 97, 98, 99, 100, 102, 103, 104, 105, 106, 107, 108, 109, 110, 112, 113, 114, 115, 118, 119, 120, 121, 122]⟩ : ByteArray), .int .u8 (bt a0 x12_1)] rfl ze3 ?_; (with_reducible refine (strings_IndexByte.calls (⟨#[48, 49, 50, 51, 52, 53, 54, 55, 56, 57, 97, 98, 99, 100, 102, 103, 104, 105, 106, 107, 108, 109, 110, 112, 113, 114, 115, 118, 119, 120, 121, 122]⟩ : ByteArray) (bt a0 x12_1) t123 _ A7.out).mono ?_); rintro e w' ⟨rfl, ⟨nd, rfl⟩⟩; refine ⟨_, rfl, ?_⟩)); go_ret2; exact ⟨ze0, ze1⟩
         ·rw [if_neg c10] at H; have c10b0 : decide (15 < t123) = false := decide_eq_false c10; clear c10; have H' := Aside0.mk H; clear H; have p6 : 0 ≤ (x12_1 : Int) := of_decide_eq_true ze2; have q6 : x12_1 < (a0.size : Int) := of_decide_eq_true ze2; have hx6 := bt_at a0 x12_1; replace p6 := eq_true p6; replace q6 := eq_true q6; go_wp2_with (first | ((with_reducible refine gate_callee (f := 70) rfl ?_); refine goesL_ (some 18) rfl rfl Try.func70 (by kernel_rfl) rfl #[.string (⟨#[48, 49, 50, 51, 52, 53, 54, 55, 56, 57, 97, 98, 99, 100, 102, 103, 104, 105, 106, 107, 108, 109, 110, 112, 113, 114, 115, 118, 119, 120, 121, 122]⟩ : ByteArray), .int .u8 (bt a0 x12_1)] rfl ze3 ?_; (with_reducible refine (strings_IndexByte.calls (⟨#[48, 49, 50, 51, 52, 53, 54, 55, 56, 57, 97, 98, 99, 100, 102, 103, 104, 105, 106, 107, 108, 109, 110, 112, 113, 114, 115, 118, 119, 120, 121, 122]⟩ : ByteArray) (bt a0 x12_1) t123 _ A7.out).mono ?_); rintro e w' ⟨rfl, ⟨nd, rfl⟩⟩; refine ⟨_, rfl, ?_⟩)); go_roundg k1; (case measure => have := HK1.out; omega); case rel => exact ⟨(Go.bits .or .u64 (IntKind.u64.wrap (x4_1 * 32)) (IntKind.u64.wrap (t123))), (wrap64 (x12_1 + 1)), ze0, ze0, H', ⟨by have := HK1.out; omega⟩, ze1⟩
        ·rw [if_neg c9] at H; have c9b0 : (x12_1 == 0) = false := beq_eq_false_iff_ne.mpr c9; have c9b1 : (x12_1 != 0) = true := bne_iff_ne.mpr c9; have H' := Aside0.mk H; clear H; have p6 : 0 ≤ (x12_1 : Int) := of_decide_eq_true ze2; have q6 : x12_1 < (a0.size : Int) := of_decide_eq_true ze2; have hx6 := bt_at a0 x12_1; replace p6 := eq_true p6; replace q6 := eq_true q6; go_wp2_with (first | ((with_reducible refine gate_callee (f := 70) rfl ?_); refine goesL_ (some 18) rfl rfl Try.func70 (by kernel_rfl) rfl #[.string (⟨#[48, 49, 50, 51, 52, 53, 54, 55, 56, 57, 97, 98, 99, 100, 102, 103, 104, 105, 106, 107, 108, 109, 110, 112, 113, 114, 115, 118, 119, 120, 121, 122]⟩ : ByteArray), .int .u8 (bt a0 x12_1)] rfl ze3 ?_; (with_reducible refine (strings_IndexByte.calls (⟨#[48, 49, 50, 51, 52, 53, 54, 55, 56, 57, 97, 98, 99, 100, 102, 103, 104, 105, 106, 107, 108, 109, 110, 112, 113, 114, 115, 118, 119, 120, 121, 122]⟩ : ByteArray) (bt a0 x12_1) t123 _ A7.out).mono ?_); rintro e w' ⟨rfl, ⟨nd, rfl⟩⟩; refine ⟨_, rfl, ?_⟩)); go_roundg k1; (case measure => have := HK1.out; omega); case rel => exact ⟨(Go.bits .or .u64 (IntKind.u64.wrap (x4_1 * 32)) (IntKind.u64.wrap (t123))), (wrap64 (x12_1 + 1)), ze0, ze0, H', ⟨by have := HK1.out; omega⟩, ze1⟩
      ·rw [if_neg c5] at H; exact absurd H (by simp)
     ·rw [if_neg c4] at H; exact absurd H (by simp)
    ·rw [if_neg c3] at H; have c3b0 : decide (x12_1 < (a0.size : Int)) = false := decide_eq_false c3; clear c3; simp only [Option.some.injEq, Prod.mk.injEq] at H; obtain ⟨rfl, rfl⟩ := H; go_wp2; go_ret2; exact ⟨ze0, ze1⟩
 ·rw [if_neg c2] at H; have c2b0 : ((a0.size : Int) == 13) = false := beq_eq_false_iff_ne.mpr c2; have c2b1 : ((a0.size : Int) != 13) = true := bne_iff_ne.mpr c2; simp only [Option.some.injEq, Prod.mk.injEq] at H; obtain ⟨rfl, rfl⟩ := H; go_enter Try.func61, Try.ntmps61; go_wp2; go_ret2; exact ⟨ze0, ze1⟩

/-! ### impl_AddressOk: function 35 -/
def impl_AddressOk.f (k : Nat) (a0 : ByteArray) : Option (Bool) := if (a0.size : Int) < 14 then (some false) else (if 13 < (a0.size : Int) then (if (bt a0 13) = 45 then (if 14 ≤ (a0.size : Int) then ((impl_NameOk.f k (a0.extract 14 a0.size)).bind fun t124 => (if t124 = true then (if 0 ≤ 13 then (if 13 ≤ (a0.size : Int) then ((impl_ReadWord32.f k (a0.extract 0 13)).bind fun bt125 => (some bt125.2)) else (none)) else (none)) else (some false))) else (none)) else (some false)) else (none))
theorem impl_AddressOk.mono : ∀ a0 k, LeO (impl_AddressOk.f k a0) (impl_AddressOk.f (k + 1) a0) := by
 intro a0 k; unfold impl_AddressOk.f
 repeat' first
   | (with_reducible exact impl_NameOk.mono _ _)
   | (with_reducible exact impl_ReadWord32.mono _ _)
   | (with_reducible exact LeO.refl _)
   | (with_reducible exact LeO.none _)
   | (with_reducible refine LeO.ite ?_ ?_)
   | (with_reducible refine LeO.bind ?_ (fun _ => ?_))
   | exact impl_NameOk.mono _ _
   | exact impl_ReadWord32.mono _ _
   | exact LeO.none _
   | refine LeO.ite ?_ ?_
   | refine LeO.bind ?_ (fun _ => ?_)
set_option maxHeartbeats 8000000 in
set_option maxRecDepth 100000 in
theorem impl_AddressOk.calls (k : Nat) (a0 : ByteArray) (r : Bool) (w : World) (h : impl_AddressOk.f k a0 = some r) :
  Calls Try.prog 35 #[.string a0] w fun e w' => e = .returned (.bool r) ∧ Drawn0 w w' := by
 have H : (if (a0.size : Int) < 14 then (some false) else (if 13 < (a0.size : Int) then (if (bt a0 13) = 45 then (if 14 ≤ (a0.size : Int) then ((impl_NameOk.f k (a0.extract 14 a0.size)).bind fun t124 => (if t124 = true then (if 0 ≤ 13 then (if 13 ≤ (a0.size : Int) then ((impl_ReadWord32.f k (a0.extract 0 13)).bind fun bt125 => (some bt125.2)) else (none)) else (none)) else (some false))) else (none)) else (some false)) else (none))) = some r := h; clear h; by_cases c2 : (a0.size : Int) < 14
 ·rw [if_pos c2] at H; have c2b0 : decide ((a0.size : Int) < 14) = true := decide_eq_true c2; have c2b1 : decide (a0.size < 14) = true := decide_eq_true (by omega); clear c2; obtain rfl := Option.some.inj H; go_enter Try.func35, Try.ntmps35; go_wp2; go_ret; exact ⟨ze0, ze1⟩
 ·rw [if_neg c2] at H; have c2b0 : decide ((a0.size : Int) < 14) = false := decide_eq_false c2; have c2b1 : decide (a0.size < 14) = false := decide_eq_false (by omega); clear c2; by_cases c3 : 13 < (a0.size : Int)
  ·rw [if_pos c3] at H; have c3b0 : decide (13 < (a0.size : Int)) = true := decide_eq_true c3; have c3b1 : decide (13 < a0.size) = true := decide_eq_true (by omega); clear c3; by_cases c5 : (bt a0 13) = 45
   ·rw [if_pos c5] at H; have c5b0 : ((bt a0 13) == 45) = true := beq_iff_eq.mpr c5; have c5b1 : ((bt a0 13) != 45) = false := bne_eq_false_iff_eq.mpr c5; clear c5; by_cases c6 : 14 ≤ (a0.size : Int)
    ·rw [if_pos c6] at H; have c6b0 := eq_true c6; have c6b1 : decide (14 ≤ (a0.size : Int)) = true := decide_eq_true c6; clear c6; replace H := Option.bind_eq_some_iff.mp H; obtain ⟨t124, A70, H⟩ := H; have A7 := Aside0.mk A70; clear A70; by_cases c8 : t124 = true
     ·subst c8; rw [if_pos rfl] at H; by_cases c9 : 0 ≤ 13
      ·rw [if_pos c9] at H; have c9b0 := eq_true c9; have c9b1 : decide (0 ≤ 13) = true := decide_eq_true c9; clear c9; by_cases c10 : 13 ≤ (a0.size : Int)
       ·rw [if_pos c10] at H; have c10b0 := eq_true c10; have c10b1 : decide (13 ≤ (a0.size : Int)) = true := decide_eq_true c10; clear c10; replace H := Option.bind_eq_some_iff.mp H; obtain ⟨⟨t125, t126⟩, A110, H⟩ := H; dsimp only at H; have A11 := Aside0.mk A110; clear A110; obtain rfl := Option.some.inj H; have p4 : 0 ≤ (13 : Int) := (by omega); have q4 : 13 < a0.size := ze4; have hx4 : ∀ h : 13 < a0.size, ((a0[13]'h).toNat : Int) = bt a0 13 := bt_at a0 13; clear p4; have qi4 : (13 < (a0.size : Int)) = True := eq_true (of_decide_eq_true ze2); replace q4 := eq_true q4; go_enter Try.func35, Try.ntmps35; go_wp2_with (first | (go_at_call 34; (with_reducible refine (impl_NameOk.calls k (a0.extract 14 a0.size) true _ A7.out).mono ?_); rintro e w' ⟨rfl, ⟨nd, rfl⟩⟩) | ((with_reducible refine gate_callee (f := 61) rfl ?_); refine goesL_ (some 22) rfl rfl Try.func61 (by kernel_rfl) rfl #[.string (a0.extract 0 13)] rfl ze3 ?_; (with_reducible refine (impl_ReadWord32.calls k (a0.extract 0 13) t125 t126 _ A11.out).mono ?_); rintro e w' ⟨rfl, ⟨nd, rfl⟩⟩; refine ⟨_, rfl, ?_⟩)); go_ret; exact ⟨ze0, ze1⟩
       ·rw [if_neg c10] at H; exact absurd H (by simp)
      ·rw [if_neg c9] at H; exact absurd H (by simp)
     ·replace c8 := Bool.eq_false_iff.mpr c8; subst c8; rw [if_neg (show ¬ (false = true) by decide)] at H; obtain rfl := Option.some.inj H; have p4 : 0 ≤ (13 : Int) := (by omega); have q4 : 13 < a0.size := ze4; have hx4 : ∀ h : 13 < a0.size, ((a0[13]'h).toNat : Int) = bt a0 13 := bt_at a0 13; clear p4; have qi4 : (13 < (a0.size : Int)) = True := eq_true (of_decide_eq_true ze2); replace q4 := eq_true q4; go_enter Try.func35, Try.ntmps35; go_wp2_with (first | (go_at_call 34; (with_reducible refine (impl_NameOk.calls k (a0.extract 14 a0.size) false _ A7.out).mono ?_); rintro e w' ⟨rfl, ⟨nd, rfl⟩⟩)); go_ret; exact ⟨ze0, ze1⟩
    ·rw [if_neg c6] at H; exact absurd H (by simp)
   ·rw [if_neg c5] at H; have c5b0 : ((bt a0 13) == 45) = false := beq_eq_false_iff_ne.mpr c5; have c5b1 : ((bt a0 13) != 45) = true := bne_iff_ne.mpr c5; obtain rfl := Option.some.inj H; have p4 : 0 ≤ (13 : Int) := (by omega); have q4 : 13 < a0.size := ze4; have hx4 : ∀ h : 13 < a0.size, ((a0[13]'h).toNat : Int) = bt a0 13 := bt_at a0 13; clear p4; have qi4 : (13 < (a0.size : Int)) = True := eq_true (of_decide_eq_true ze2); replace q4 := eq_true q4; go_enter Try.func35, Try.ntmps35; go_wp2; go_ret; exact ⟨ze0, ze1⟩
  ·rw [if_neg c3] at H; exact absurd H (by simp)

end Go.Proofs.Ytbgnjnlecpdfaaa.PFnRollBack
