-- Laid by a program of this session: a turned copy of the kit's print, with contracts by hand beside.
import Derived.Test.YtklinldidfdnjaaPFnExactDrvOkx0
import Derived.Test.YtklinldidfdnjaaPFnExactDrvOkx5
namespace Go.Proofs.Ytklinldidfdnjaa.PFnExactDrvOk
open Go.RowKit Go.Proofs.YtklinldidfdnjaaW.PrintWords Go.Proofs.YtklinldidfdnjaaW.PrintLast Go.Proofs.YtklinldidfdnjaaW.PrintMore
attribute [local go_sem] max2_int min2_int max_two min_two max_three min_three max_four min_four   -- for this text's walks alone
set_option linter.unusedVariables false
set_option linter.unusedSimpArgs false

/-! ### impl_NameOk: function 30 -/
mutual
def impl_NameOk.j0 : Nat → ByteArray → Bool → Option (Bool)
 | 0, _, _ => none
 | k + 1, x0, x17 => if x17 = true then (some false) else (impl_NameOk.l0 k x0 (x0.size : Int) 0)
def impl_NameOk.l0 : Nat → ByteArray → Int → Int → Option (Bool)
 | 0, _, _, _ => none
 | k + 1, x0, x19, x20 => if x20 < x19 then (if 0 ≤ x20 then (if x20 < (x0.size : Int) then ((impl_letter.f (bt x0 x20)).bind fun t194 => (if t194 = true then (impl_NameOk.l0 k x0 x19 (wrap64 (x20 + 1))) else ((impl_digit.f (bt x0 x20)).bind fun t195 => (if t195 = true then (impl_NameOk.l0 k x0 x19 (wrap64 (x20 + 1))) else ((strings_ContainsRune.f (⟨#[45, 95, 46, 43]⟩ : ByteArray) (wrap32 (bt x0 x20))).bind fun t196 => (if t196 = true then (impl_NameOk.l0 k x0 x19 (wrap64 (x20 + 1))) else (some false))))))) else (none)) else (none)) else (some true)
end
def impl_NameOk.f (k : Nat) (a0 : ByteArray) : Option (Bool) := if (a0.size : Int) < 1 then (impl_NameOk.j0 k a0 true) else (if (a0.size : Int) > 60 then (impl_NameOk.j0 k a0 true) else (if 0 < (a0.size : Int) then (impl_NameOk.j0 k a0 ((bt a0 0) == 46)) else (none)))
theorem impl_NameOk.mono_l : ∀ k, (∀ y0 y1, LeO (impl_NameOk.j0 k y0 y1) (impl_NameOk.j0 (k + 1) y0 y1)) ∧ (∀ y0 y1 y2, LeO (impl_NameOk.l0 k y0 y1 y2) (impl_NameOk.l0 (k + 1) y0 y1 y2))
 | 0 => ⟨fun _ _ r h => by simp [impl_NameOk.j0] at h, fun _ _ _ r h => by simp [impl_NameOk.l0] at h⟩
 | k + 1 => by
  obtain ⟨ih0, ih1⟩ := impl_NameOk.mono_l k
  refine ⟨?_, ?_⟩
  ·intro y0 y1
   unfold impl_NameOk.j0
   repeat' first
   | (with_reducible exact ih0 _ _)
   | (with_reducible exact ih1 _ _ _)
   | (with_reducible exact LeO.refl _)
   | (with_reducible exact LeO.none _)
   | (with_reducible refine LeO.ite ?_ ?_)
   | (with_reducible refine LeO.bind ?_ (fun _ => ?_))
   | exact ih0 _ _
   | exact ih1 _ _ _
   | exact LeO.none _
   | refine LeO.ite ?_ ?_
   | refine LeO.bind ?_ (fun _ => ?_)
  ·intro y0 y1 y2
   unfold impl_NameOk.l0
   repeat' first
   | (with_reducible exact ih0 _ _)
   | (with_reducible exact ih1 _ _ _)
   | (with_reducible exact LeO.refl _)
   | (with_reducible exact LeO.none _)
   | (with_reducible refine LeO.ite ?_ ?_)
   | (with_reducible refine LeO.bind ?_ (fun _ => ?_))
   | exact ih0 _ _
   | exact ih1 _ _ _
   | exact LeO.none _
   | refine LeO.ite ?_ ?_
   | refine LeO.bind ?_ (fun _ => ?_)
theorem impl_NameOk.mono : ∀ a0 k, LeO (impl_NameOk.f k a0) (impl_NameOk.f (k + 1) a0) := by
 intro a0 k
 obtain ⟨ih0, ih1⟩ := impl_NameOk.mono_l k
 unfold impl_NameOk.f
 repeat' first
   | (with_reducible exact ih0 _ _)
   | (with_reducible exact ih1 _ _ _)
   | (with_reducible exact LeO.refl _)
   | (with_reducible exact LeO.none _)
   | (with_reducible refine LeO.ite ?_ ?_)
   | (with_reducible refine LeO.bind ?_ (fun _ => ?_))
   | exact ih0 _ _
   | exact ih1 _ _ _
   | exact LeO.none _
   | refine LeO.ite ?_ ?_
   | refine LeO.bind ?_ (fun _ => ?_)
set_option maxHeartbeats 8000000 in
set_option maxRecDepth 100000 in
theorem impl_NameOk.calls (k : Nat) (a0 : ByteArray) (r : Bool) (w : World) (h : impl_NameOk.f k a0 = some r) :
  Calls Try.prog 30 #[.string a0] w fun e w' => e = .returned (.bool r) ∧ Drawn0 w w' := by
 have H : (if (a0.size : Int) < 1 then (impl_NameOk.j0 k a0 true) else (if (a0.size : Int) > 60 then (impl_NameOk.j0 k a0 true) else (if 0 < (a0.size : Int) then (impl_NameOk.j0 k a0 ((bt a0 0) == 46)) else (none)))) = some r := h
 clear h
 have HC2 := Aside0.mk H
 clear H
 go_enter Try.func30, Try.ntmps30
 go_upto_region 1 with (fail)
 go_cut [17] (fun v17 wc => ∃ (kq : Nat) (x17_1 : Bool), v17 = .bool x17_1 ∧ Aside0 (impl_NameOk.j0 kq a0 x17_1 = some r) ∧ Aside0 (kq ≤ k) ∧ Drawn0 w wc)
 case first =>
  have H := HC2.out
  clear HC2
  by_cases c3 : (a0.size : Int) < 1
  ·rw [if_pos c3] at H
   have c3b0 : decide ((a0.size : Int) < 1) = true := decide_eq_true c3
   have c3b1 : decide (a0.size < 1) = true := decide_eq_true (by omega)
   clear c3
   (first | rw [c3b0] | (simp only [i64_w, i32_w]; rw [c3b0]) | skip)
   have H' := Aside0.mk H
   clear H
   go_wp2
   go_meet
   case rel => exact ⟨_, (true), (by first | rfl | (simp; done) | (simp [*]; done)), H', ⟨by first | omega | exact Nat.le_refl _⟩, by repeat (first | exact Drawn0.refl _ | apply Drawn0.step)⟩
  ·rw [if_neg c3] at H
   have c3b0 : decide ((a0.size : Int) < 1) = false := decide_eq_false c3
   have c3b1 : decide (a0.size < 1) = false := decide_eq_false (by omega)
   clear c3
   (first | rw [c3b0] | (simp only [i64_w, i32_w]; rw [c3b0]) | skip)
   by_cases c4 : (a0.size : Int) > 60
   ·rw [if_pos c4] at H
    have c4b0 : decide (60 < (a0.size : Int)) = true := decide_eq_true c4
    have c4b1 : decide (60 < a0.size) = true := decide_eq_true (by omega)
    clear c4
    have H' := Aside0.mk H
    clear H
    go_wp2
    go_meet
    case rel => exact ⟨_, (true), (by first | rfl | (simp; done) | (simp [*]; done)), H', ⟨by first | omega | exact Nat.le_refl _⟩, by repeat (first | exact Drawn0.refl _ | apply Drawn0.step)⟩
   ·rw [if_neg c4] at H
    have c4b0 : decide (60 < (a0.size : Int)) = false := decide_eq_false c4
    have c4b1 : decide (60 < a0.size) = false := decide_eq_false (by omega)
    clear c4
    by_cases c5 : 0 < (a0.size : Int)
    ·rw [if_pos c5] at H
     have c5b0 : decide (0 < (a0.size : Int)) = true := decide_eq_true c5
     have c5b1 : decide (0 < a0.size) = true := decide_eq_true (by omega)
     clear c5
     have H' := Aside0.mk H
     clear H
     have p6 : 0 ≤ (0 : Int) := (by omega)
     have q6 : 0 < a0.size := (by have : (0 : Int) < (a0.size : Int) := of_decide_eq_true (by first | (with_reducible assumption) | assumption); omega)
     have hx6 : ∀ h : 0 < a0.size, ((a0[0]'h).toNat : Int) = bt a0 0 := bt_at a0 0
     clear p6
     have qi6 : (0 < (a0.size : Int)) = True := eq_true (of_decide_eq_true (by first | (with_reducible assumption) | assumption))
     replace q6 := eq_true q6
     go_wp2
     go_meet
     case rel => exact ⟨_, (((bt a0 0) == 46)), (by first | rfl | (simp; done) | (simp [*]; done)), H', ⟨by first | omega | exact Nat.le_refl _⟩, by repeat (first | exact Drawn0.refl _ | apply Drawn0.step)⟩
    ·rw [if_neg c5] at H
     exact absurd H (by simp)
 case rest =>
  clear HC2
  try clear p2
  try clear c3
  try clear c3b0
  try clear c3b1
  try clear c4
  try clear c4b0
  try clear c4b1
  try clear c5
  try clear c5b0
  try clear c5b1
  try clear p6
  try clear q6
  try clear hx6
  try clear qi6
  try clear p6
  try clear q6
  obtain ⟨kq, x17_1, rfl, HA, HJ1, ⟨mc1, rfl⟩⟩ := hcut
  cases kq with
  | zero => exact absurd HA.out (by simp [impl_NameOk.j0])
  | succ kj1 =>
   have H := HA.out
   clear HA
   simp only [impl_NameOk.j0] at H
   by_cases c7 : x17_1 = true
   ·subst c7
    have H1 : (some false) = some r := by rw [if_pos rfl] at H; exact H
    clear H
    have H := H1
    clear H1
    obtain rfl := Option.some.inj H
    go_wp2
    go_ret
    exact ⟨by first | rfl | (simp; done) | (simp [*]; done), by repeat (first | exact Drawn0.refl _ | apply Drawn0.step)⟩
   ·replace c7 := Bool.eq_false_iff.mpr c7
    subst c7
    have H1 : (impl_NameOk.l0 kj1 a0 (a0.size : Int) 0) = some r := by rw [if_neg (show ¬ (false = true) by decide)] at H; exact H
    clear H
    have H := H1
    clear H1
    have H' := Aside0.mk H
    clear H
    go_wp2
    go_loopg [20] kj1 (fun kq v20 w' => ∃ (x20_2 : Int), v20 = .int .i64 x20_2 ∧ Aside0 (impl_NameOk.l0 kq a0 (a0.size : Int) x20_2 = some r) ∧ Aside0 (kq ≤ kj1) ∧ Drawn0 w w')
    case atStart => exact ⟨(0), (by first | rfl | (simp; done) | (simp [*]; done)), H', ⟨Nat.le_refl _⟩, by repeat (first | exact Drawn0.refl _ | apply Drawn0.step)⟩
    case round =>
     clear H'
     try clear c1
     try clear p2
     try clear c3
     try clear c3b0
     try clear c3b1
     try clear c4
     try clear c4b0
     try clear c4b1
     try clear c5
     try clear c5b0
     try clear c5b1
     try clear p6
     try clear q6
     try clear hx6
     try clear qi6
     try clear c7
     try clear p2
     try clear p6
     try clear q6
     obtain ⟨x20_2, rfl, HA, HK2, ⟨m2, rfl⟩⟩ := hrel
     cases gk with
     | zero => exact absurd HA.out (by simp [impl_NameOk.l0])
     | succ k2 =>
      have H := HA.out
      clear HA
      simp only [impl_NameOk.l0] at H
      by_cases c8 : x20_2 < (a0.size : Int)
      ·rw [if_pos c8] at H
       have c8b0 : decide (x20_2 < (a0.size : Int)) = true := decide_eq_true c8
       clear c8
       by_cases c9 : 0 ≤ x20_2
       ·rw [if_pos c9] at H
        have c9b0 : decide (0 ≤ x20_2) = true := decide_eq_true c9
        clear c9
        by_cases c10 : x20_2 < (a0.size : Int)
        ·rw [if_pos c10] at H
         have c10b0 : decide (x20_2 < (a0.size : Int)) = true := decide_eq_true c10
         clear c10
         replace H := Option.bind_eq_some_iff.mp H
         obtain ⟨t194, A120, H⟩ := H
         replace H : (if t194 = true then (impl_NameOk.l0 k2 a0 (a0.size : Int) (wrap64 (x20_2 + 1))) else ((impl_digit.f (bt a0 x20_2)).bind fun t195 => (if t195 = true then (impl_NameOk.l0 k2 a0 (a0.size : Int) (wrap64 (x20_2 + 1))) else ((strings_ContainsRune.f (⟨#[45, 95, 46, 43]⟩ : ByteArray) (wrap32 (bt a0 x20_2))).bind fun t196 => (if t196 = true then (impl_NameOk.l0 k2 a0 (a0.size : Int) (wrap64 (x20_2 + 1))) else (some false)))))) = some r := H
         have A12 := Aside0.mk A120
         clear A120
         by_cases c13 : t194 = true
         ·subst c13
          have H1 : (impl_NameOk.l0 k2 a0 (a0.size : Int) (wrap64 (x20_2 + 1))) = some r := by rw [if_pos rfl] at H; exact H
          clear H
          have H := H1
          clear H1
          have H' := Aside0.mk H
          clear H
          have p11 : 0 ≤ (x20_2 : Int) := of_decide_eq_true (by first | (with_reducible assumption) | assumption)
          have q11 : x20_2 < (a0.size : Int) := of_decide_eq_true (by first | (with_reducible assumption) | assumption)
          have hx11 := bt_at a0 x20_2
          replace p11 := eq_true p11
          replace q11 := eq_true q11
          go_wp2_with (first | ((with_reducible refine gate_callee (f := 59) rfl ?_); refine goesL_ (some 27) rfl rfl Try.func59 (by kernel_rfl) rfl #[.int .u8 (bt a0 x20_2)] rfl (by (try simp only [List.map_toArray, List.map_cons, List.map_nil]); first | done | rfl | (simp only [List.length_drop, List.length_take]; rfl)) ?_; (with_reducible refine (impl_letter.calls (bt a0 x20_2) true _ A12.out).mono ?_); rintro e w' ⟨rfl, ⟨nd, rfl⟩⟩; refine ⟨_, rfl, ?_⟩))
          go_roundg k2
          case measure => have := HJ1.out; have := HK2.out; omega
          case rel => exact ⟨(wrap64 (x20_2 + 1)), (by first | rfl | (simp; done) | (simp [*]; done)), H', ⟨by have := HJ1.out; have := HK2.out; omega⟩, by repeat (first | exact Drawn0.refl _ | apply Drawn0.step)⟩
         ·replace c13 := Bool.eq_false_iff.mpr c13
          subst c13
          have H1 : ((impl_digit.f (bt a0 x20_2)).bind fun t195 => (if t195 = true then (impl_NameOk.l0 k2 a0 (a0.size : Int) (wrap64 (x20_2 + 1))) else ((strings_ContainsRune.f (⟨#[45, 95, 46, 43]⟩ : ByteArray) (wrap32 (bt a0 x20_2))).bind fun t196 => (if t196 = true then (impl_NameOk.l0 k2 a0 (a0.size : Int) (wrap64 (x20_2 + 1))) else (some false))))) = some r := by rw [if_neg (show ¬ (false = true) by decide)] at H; exact H
          clear H
          have H := H1
          clear H1
          replace H := Option.bind_eq_some_iff.mp H
          obtain ⟨t195, A140, H⟩ := H
          replace H : (if t195 = true then (impl_NameOk.l0 k2 a0 (a0.size : Int) (wrap64 (x20_2 + 1))) else ((strings_ContainsRune.f (⟨#[45, 95, 46, 43]⟩ : ByteArray) (wrap32 (bt a0 x20_2))).bind fun t196 => (if t196 = true then (impl_NameOk.l0 k2 a0 (a0.size : Int) (wrap64 (x20_2 + 1))) else (some false)))) = some r := H
          have A14 := Aside0.mk A140
          clear A140
          by_cases c15 : t195 = true
          ·subst c15
           have H1 : (impl_NameOk.l0 k2 a0 (a0.size : Int) (wrap64 (x20_2 + 1))) = some r := by rw [if_pos rfl] at H; exact H
           clear H
           have H := H1
           clear H1
           have H' := Aside0.mk H
           clear H
           have p11 : 0 ≤ (x20_2 : Int) := of_decide_eq_true (by first | (with_reducible assumption) | assumption)
           have q11 : x20_2 < (a0.size : Int) := of_decide_eq_true (by first | (with_reducible assumption) | assumption)
           have hx11 := bt_at a0 x20_2
           replace p11 := eq_true p11
           replace q11 := eq_true q11
           go_wp2_with (first | ((with_reducible refine gate_callee (f := 59) rfl ?_); refine goesL_ (some 27) rfl rfl Try.func59 (by kernel_rfl) rfl #[.int .u8 (bt a0 x20_2)] rfl (by (try simp only [List.map_toArray, List.map_cons, List.map_nil]); first | done | rfl | (simp only [List.length_drop, List.length_take]; rfl)) ?_; (with_reducible refine (impl_letter.calls (bt a0 x20_2) false _ A12.out).mono ?_); rintro e w' ⟨rfl, ⟨nd, rfl⟩⟩; refine ⟨_, rfl, ?_⟩) | (go_at_call 60; (with_reducible refine (impl_digit.calls (bt a0 x20_2) true _ A14.out).mono ?_); rintro e w' ⟨rfl, ⟨nd, rfl⟩⟩))
           go_roundg k2
           case measure => have := HJ1.out; have := HK2.out; omega
           case rel => exact ⟨(wrap64 (x20_2 + 1)), (by first | rfl | (simp; done) | (simp [*]; done)), H', ⟨by have := HJ1.out; have := HK2.out; omega⟩, by repeat (first | exact Drawn0.refl _ | apply Drawn0.step)⟩
          ·replace c15 := Bool.eq_false_iff.mpr c15
           subst c15
           have H1 : ((strings_ContainsRune.f (⟨#[45, 95, 46, 43]⟩ : ByteArray) (wrap32 (bt a0 x20_2))).bind fun t196 => (if t196 = true then (impl_NameOk.l0 k2 a0 (a0.size : Int) (wrap64 (x20_2 + 1))) else (some false))) = some r := by rw [if_neg (show ¬ (false = true) by decide)] at H; exact H
           clear H
           have H := H1
           clear H1
           replace H := Option.bind_eq_some_iff.mp H
           obtain ⟨t196, A160, H⟩ := H
           replace H : (if t196 = true then (impl_NameOk.l0 k2 a0 (a0.size : Int) (wrap64 (x20_2 + 1))) else (some false)) = some r := H
           have A16 := Aside0.mk A160
           clear A160
           by_cases c17 : t196 = true
           ·subst c17
            have H1 : (impl_NameOk.l0 k2 a0 (a0.size : Int) (wrap64 (x20_2 + 1))) = some r := by rw [if_pos rfl] at H; exact H
            clear H
            have H := H1
            clear H1
            have H' := Aside0.mk H
            clear H
            have p11 : 0 ≤ (x20_2 : Int) := of_decide_eq_true (by first | (with_reducible assumption) | assumption)
            have q11 : x20_2 < (a0.size : Int) := of_decide_eq_true (by first | (with_reducible assumption) | assumption)
            have hx11 := bt_at a0 x20_2
            replace p11 := eq_true p11
            replace q11 := eq_true q11
            go_wp2_with (first | ((with_reducible refine gate_callee (f := 59) rfl ?_); refine goesL_ (some 27) rfl rfl Try.func59 (by kernel_rfl) rfl #[.int .u8 (bt a0 x20_2)] rfl (by (try simp only [List.map_toArray, List.map_cons, List.map_nil]); first | done | rfl | (simp only [List.length_drop, List.length_take]; rfl)) ?_; (with_reducible refine (impl_letter.calls (bt a0 x20_2) false _ A12.out).mono ?_); rintro e w' ⟨rfl, ⟨nd, rfl⟩⟩; refine ⟨_, rfl, ?_⟩) | (go_at_call 60; (with_reducible refine (impl_digit.calls (bt a0 x20_2) false _ A14.out).mono ?_); rintro e w' ⟨rfl, ⟨nd, rfl⟩⟩) | (go_at_call 61; (with_reducible refine (strings_ContainsRune.calls (⟨#[45, 95, 46, 43]⟩ : ByteArray) (wrap32 (bt a0 x20_2)) true _ A16.out).mono ?_); rintro e w' ⟨rfl, ⟨nd, rfl⟩⟩))
            go_roundg k2
            case measure => have := HJ1.out; have := HK2.out; omega
            case rel => exact ⟨(wrap64 (x20_2 + 1)), (by first | rfl | (simp; done) | (simp [*]; done)), H', ⟨by have := HJ1.out; have := HK2.out; omega⟩, by repeat (first | exact Drawn0.refl _ | apply Drawn0.step)⟩
           ·replace c17 := Bool.eq_false_iff.mpr c17
            subst c17
            have H1 : (some false) = some r := by rw [if_neg (show ¬ (false = true) by decide)] at H; exact H
            clear H
            have H := H1
            clear H1
            obtain rfl := Option.some.inj H
            have p11 : 0 ≤ (x20_2 : Int) := of_decide_eq_true (by first | (with_reducible assumption) | assumption)
            have q11 : x20_2 < (a0.size : Int) := of_decide_eq_true (by first | (with_reducible assumption) | assumption)
            have hx11 := bt_at a0 x20_2
            replace p11 := eq_true p11
            replace q11 := eq_true q11
            go_wp2_with (first | ((with_reducible refine gate_callee (f := 59) rfl ?_); refine goesL_ (some 27) rfl rfl Try.func59 (by kernel_rfl) rfl #[.int .u8 (bt a0 x20_2)] rfl (by (try simp only [List.map_toArray, List.map_cons, List.map_nil]); first | done | rfl | (simp only [List.length_drop, List.length_take]; rfl)) ?_; (with_reducible refine (impl_letter.calls (bt a0 x20_2) false _ A12.out).mono ?_); rintro e w' ⟨rfl, ⟨nd, rfl⟩⟩; refine ⟨_, rfl, ?_⟩) | (go_at_call 60; (with_reducible refine (impl_digit.calls (bt a0 x20_2) false _ A14.out).mono ?_); rintro e w' ⟨rfl, ⟨nd, rfl⟩⟩) | (go_at_call 61; (with_reducible refine (strings_ContainsRune.calls (⟨#[45, 95, 46, 43]⟩ : ByteArray) (wrap32 (bt a0 x20_2)) false _ A16.out).mono ?_); rintro e w' ⟨rfl, ⟨nd, rfl⟩⟩))
            go_ret
            exact ⟨by first | rfl | (simp; done) | (simp [*]; done), by repeat (first | exact Drawn0.refl _ | apply Drawn0.step)⟩
        ·rw [if_neg c10] at H
         exact absurd H (by simp)
       ·rw [if_neg c9] at H
        exact absurd H (by simp)
      ·rw [if_neg c8] at H
       have c8b0 : decide (x20_2 < (a0.size : Int)) = false := decide_eq_false c8
       clear c8
       obtain rfl := Option.some.inj H
       go_wp2
       go_ret
       exact ⟨by first | rfl | (simp; done) | (simp [*]; done), by repeat (first | exact Drawn0.refl _ | apply Drawn0.step)⟩

/-! ### impl_AddressOk: function 9 -/
def impl_AddressOk.f (k : Nat) (a0 : ByteArray) : Option (Bool) := if (a0.size : Int) < 14 then (some false) else (if 13 < (a0.size : Int) then (if (bt a0 13) = 45 then (if 14 ≤ (a0.size : Int) then ((impl_NameOk.f k (a0.extract 14 a0.size)).bind fun t197 => (if t197 = true then (if 0 ≤ 13 then (if 13 ≤ (a0.size : Int) then ((impl_ReadWord32.f k (a0.extract 0 13)).bind fun bt198 => (some bt198.2)) else (none)) else (none)) else (some false))) else (none)) else (some false)) else (none))
theorem impl_AddressOk.mono : ∀ a0 k, LeO (impl_AddressOk.f k a0) (impl_AddressOk.f (k + 1) a0) := by
 intro a0 k
 unfold impl_AddressOk.f
 repeat' first
   | (with_reducible exact impl_NameOk.mono _ _)
   | (with_reducible exact impl_ReadWord32.mono _ _)
   | (with_reducible exact LeO.refl _)
   | (with_reducible exact LeO.none _)
   | (with_reducible refine LeO.ite ?_ ?_)
   | (with_reducible refine LeO.bind ?_ (fun _ => ?_))
   | exact impl_NameOk.mono _ _
   | exact impl_ReadWord32.mono _ _
   | exact LeO.none _
   | refine LeO.ite ?_ ?_
   | refine LeO.bind ?_ (fun _ => ?_)
set_option maxHeartbeats 8000000 in
set_option maxRecDepth 100000 in
theorem impl_AddressOk.calls (k : Nat) (a0 : ByteArray) (r : Bool) (w : World) (h : impl_AddressOk.f k a0 = some r) :
  Calls Try.prog 9 #[.string a0] w fun e w' => e = .returned (.bool r) ∧ Drawn0 w w' := by
 have H : (if (a0.size : Int) < 14 then (some false) else (if 13 < (a0.size : Int) then (if (bt a0 13) = 45 then (if 14 ≤ (a0.size : Int) then ((impl_NameOk.f k (a0.extract 14 a0.size)).bind fun t197 => (if t197 = true then (if 0 ≤ 13 then (if 13 ≤ (a0.size : Int) then ((impl_ReadWord32.f k (a0.extract 0 13)).bind fun bt198 => (some bt198.2)) else (none)) else (none)) else (some false))) else (none)) else (some false)) else (none))) = some r := h
 clear h
 by_cases c2 : (a0.size : Int) < 14
 ·rw [if_pos c2] at H
  have c2b0 : decide ((a0.size : Int) < 14) = true := decide_eq_true c2
  have c2b1 : decide (a0.size < 14) = true := decide_eq_true (by omega)
  clear c2
  obtain rfl := Option.some.inj H
  go_enter Try.func9, Try.ntmps9
  go_wp2
  go_ret
  exact ⟨by first | rfl | (simp; done) | (simp [*]; done), by repeat (first | exact Drawn0.refl _ | apply Drawn0.step)⟩
 ·rw [if_neg c2] at H
  have c2b0 : decide ((a0.size : Int) < 14) = false := decide_eq_false c2
  have c2b1 : decide (a0.size < 14) = false := decide_eq_false (by omega)
  clear c2
  by_cases c3 : 13 < (a0.size : Int)
  ·rw [if_pos c3] at H
   have c3b0 : decide (13 < (a0.size : Int)) = true := decide_eq_true c3
   have c3b1 : decide (13 < a0.size) = true := decide_eq_true (by omega)
   clear c3
   by_cases c5 : (bt a0 13) = 45
   ·rw [if_pos c5] at H
    have c5b0 : ((bt a0 13) == 45) = true := beq_iff_eq.mpr c5
    have c5b1 : ((bt a0 13) != 45) = false := bne_eq_false_iff_eq.mpr c5
    clear c5
    by_cases c6 : 14 ≤ (a0.size : Int)
    ·rw [if_pos c6] at H
     have c6b0 := eq_true c6
     have c6b1 : decide (14 ≤ (a0.size : Int)) = true := decide_eq_true c6
     clear c6
     replace H := Option.bind_eq_some_iff.mp H
     obtain ⟨t197, A70, H⟩ := H
     replace H : (if t197 = true then (if 0 ≤ 13 then (if 13 ≤ (a0.size : Int) then ((impl_ReadWord32.f k (a0.extract 0 13)).bind fun bt198 => (some bt198.2)) else (none)) else (none)) else (some false)) = some r := H
     have A7 := Aside0.mk A70
     clear A70
     by_cases c8 : t197 = true
     ·subst c8
      have H1 : (if 0 ≤ 13 then (if 13 ≤ (a0.size : Int) then ((impl_ReadWord32.f k (a0.extract 0 13)).bind fun bt198 => (some bt198.2)) else (none)) else (none)) = some r := by rw [if_pos rfl] at H; exact H
      clear H
      have H := H1
      clear H1
      by_cases c9 : 0 ≤ 13
      ·rw [if_pos c9] at H
       have c9b0 := eq_true c9
       have c9b1 : decide (0 ≤ 13) = true := decide_eq_true c9
       clear c9
       by_cases c10 : 13 ≤ (a0.size : Int)
       ·rw [if_pos c10] at H
        have c10b0 := eq_true c10
        have c10b1 : decide (13 ≤ (a0.size : Int)) = true := decide_eq_true c10
        clear c10
        replace H := Option.bind_eq_some_iff.mp H
        obtain ⟨⟨t198, t199⟩, A110, H⟩ := H
        replace H : (some t199) = some r := H
        have A11 := Aside0.mk A110
        clear A110
        obtain rfl := Option.some.inj H
        have p4 : 0 ≤ (13 : Int) := (by omega)
        have q4 : 13 < a0.size := (by have : (13 : Int) < (a0.size : Int) := of_decide_eq_true (by first | (with_reducible assumption) | assumption); omega)
        have hx4 : ∀ h : 13 < a0.size, ((a0[13]'h).toNat : Int) = bt a0 13 := bt_at a0 13
        clear p4
        have qi4 : (13 < (a0.size : Int)) = True := eq_true (of_decide_eq_true (by first | (with_reducible assumption) | assumption))
        replace q4 := eq_true q4
        go_enter Try.func9, Try.ntmps9
        go_wp2_with (first | (go_at_call 30; (with_reducible refine (impl_NameOk.calls k (a0.extract 14 a0.size) true _ A7.out).mono ?_); rintro e w' ⟨rfl, ⟨nd, rfl⟩⟩) | ((with_reducible refine gate_callee (f := 16) rfl ?_); refine goesL_ (some 22) rfl rfl Try.func16 (by kernel_rfl) rfl #[.string (a0.extract 0 13)] rfl (by (try simp only [List.map_toArray, List.map_cons, List.map_nil]); first | done | rfl | (simp only [List.length_drop, List.length_take]; rfl)) ?_; (with_reducible refine (impl_ReadWord32.calls k (a0.extract 0 13) t198 t199 _ A11.out).mono ?_); rintro e w' ⟨rfl, ⟨nd, rfl⟩⟩; refine ⟨_, rfl, ?_⟩))
        go_ret
        exact ⟨by first | rfl | (simp; done) | (simp [*]; done), by repeat (first | exact Drawn0.refl _ | apply Drawn0.step)⟩
       ·rw [if_neg c10] at H
        exact absurd H (by simp)
      ·rw [if_neg c9] at H
       exact absurd H (by simp)
     ·replace c8 := Bool.eq_false_iff.mpr c8
      subst c8
      have H1 : (some false) = some r := by rw [if_neg (show ¬ (false = true) by decide)] at H; exact H
      clear H
      have H := H1
      clear H1
      obtain rfl := Option.some.inj H
      have p4 : 0 ≤ (13 : Int) := (by omega)
      have q4 : 13 < a0.size := (by have : (13 : Int) < (a0.size : Int) := of_decide_eq_true (by first | (with_reducible assumption) | assumption); omega)
      have hx4 : ∀ h : 13 < a0.size, ((a0[13]'h).toNat : Int) = bt a0 13 := bt_at a0 13
      clear p4
      have qi4 : (13 < (a0.size : Int)) = True := eq_true (of_decide_eq_true (by first | (with_reducible assumption) | assumption))
      replace q4 := eq_true q4
      go_enter Try.func9, Try.ntmps9
      go_wp2_with (first | (go_at_call 30; (with_reducible refine (impl_NameOk.calls k (a0.extract 14 a0.size) false _ A7.out).mono ?_); rintro e w' ⟨rfl, ⟨nd, rfl⟩⟩))
      go_ret
      exact ⟨by first | rfl | (simp; done) | (simp [*]; done), by repeat (first | exact Drawn0.refl _ | apply Drawn0.step)⟩
    ·rw [if_neg c6] at H
     exact absurd H (by simp)
   ·rw [if_neg c5] at H
    have c5b0 : ((bt a0 13) == 45) = false := beq_eq_false_iff_ne.mpr c5
    have c5b1 : ((bt a0 13) != 45) = true := bne_iff_ne.mpr c5
    obtain rfl := Option.some.inj H
    have p4 : 0 ≤ (13 : Int) := (by omega)
    have q4 : 13 < a0.size := (by have : (13 : Int) < (a0.size : Int) := of_decide_eq_true (by first | (with_reducible assumption) | assumption); omega)
    have hx4 : ∀ h : 13 < a0.size, ((a0[13]'h).toNat : Int) = bt a0 13 := bt_at a0 13
    clear p4
    have qi4 : (13 < (a0.size : Int)) = True := eq_true (of_decide_eq_true (by first | (with_reducible assumption) | assumption))
    replace q4 := eq_true q4
    go_enter Try.func9, Try.ntmps9
    go_wp2
    go_ret
    exact ⟨by first | rfl | (simp; done) | (simp [*]; done), by repeat (first | exact Drawn0.refl _ | apply Drawn0.step)⟩
  ·rw [if_neg c3] at H
   exact absurd H (by simp)

/-! ### impl_plainText: function 54 -/
def impl_plainText.l0 : Nat → ByteArray → Int → Int → Option (Bool)
 | 0, _, _, _ => none
 | k + 1, x0, x8, x9 => if x9 < x8 then (if 0 ≤ x9 then (if x9 < (x0.size : Int) then (if (bt x0 x9) < 32 then (if (bt x0 x9) = 10 then (impl_plainText.l0 k x0 x8 (wrap64 (x9 + 1))) else (some false)) else (impl_plainText.l0 k x0 x8 (wrap64 (x9 + 1)))) else (none)) else (none)) else (some true)
def impl_plainText.f (k : Nat) (a0 : ByteArray) : Option (Bool) := if (a0.size : Int) > 4000 then (some false) else (impl_plainText.l0 k a0 (a0.size : Int) 0)
theorem impl_plainText.mono_l : ∀ k, (∀ y0 y1 y2, LeO (impl_plainText.l0 k y0 y1 y2) (impl_plainText.l0 (k + 1) y0 y1 y2))
 | 0 => fun _ _ _ r h => by simp [impl_plainText.l0] at h
 | k + 1 => by
  have ih0 := impl_plainText.mono_l k
  ·intro y0 y1 y2
   unfold impl_plainText.l0
   repeat' first
   | (with_reducible exact ih0 _ _ _)
   | (with_reducible exact LeO.refl _)
   | (with_reducible exact LeO.none _)
   | (with_reducible refine LeO.ite ?_ ?_)
   | (with_reducible refine LeO.bind ?_ (fun _ => ?_))
   | exact ih0 _ _ _
   | exact LeO.none _
   | refine LeO.ite ?_ ?_
   | refine LeO.bind ?_ (fun _ => ?_)
theorem impl_plainText.mono : ∀ a0 k, LeO (impl_plainText.f k a0) (impl_plainText.f (k + 1) a0) := by
 intro a0 k
 have ih0 := impl_plainText.mono_l k
 unfold impl_plainText.f
 repeat' first
   | (with_reducible exact ih0 _ _ _)
   | (with_reducible exact LeO.refl _)
   | (with_reducible exact LeO.none _)
   | (with_reducible refine LeO.ite ?_ ?_)
   | (with_reducible refine LeO.bind ?_ (fun _ => ?_))
   | exact ih0 _ _ _
   | exact LeO.none _
   | refine LeO.ite ?_ ?_
   | refine LeO.bind ?_ (fun _ => ?_)
set_option maxHeartbeats 8000000 in
set_option maxRecDepth 100000 in
theorem impl_plainText.calls (k : Nat) (a0 : ByteArray) (r : Bool) (w : World) (h : impl_plainText.f k a0 = some r) :
  Calls Try.prog 54 #[.string a0] w fun e w' => e = .returned (.bool r) ∧ Drawn0 w w' := by
 have H : (if (a0.size : Int) > 4000 then (some false) else (impl_plainText.l0 k a0 (a0.size : Int) 0)) = some r := h
 clear h
 by_cases c2 : (a0.size : Int) > 4000
 ·rw [if_pos c2] at H
  have c2b0 : decide (4000 < (a0.size : Int)) = true := decide_eq_true c2
  have c2b1 : decide (4000 < a0.size) = true := decide_eq_true (by omega)
  clear c2
  obtain rfl := Option.some.inj H
  go_enter Try.func54, Try.ntmps54
  go_wp2
  go_ret
  exact ⟨by first | rfl | (simp; done) | (simp [*]; done), by repeat (first | exact Drawn0.refl _ | apply Drawn0.step)⟩
 ·rw [if_neg c2] at H
  have c2b0 : decide (4000 < (a0.size : Int)) = false := decide_eq_false c2
  have c2b1 : decide (4000 < a0.size) = false := decide_eq_false (by omega)
  clear c2
  have H' := Aside0.mk H
  clear H
  go_enter Try.func54, Try.ntmps54
  go_wp2
  go_loopg [9] k (fun kq v9 w' => ∃ (x9_1 : Int), v9 = .int .i64 x9_1 ∧ Aside0 (impl_plainText.l0 kq a0 (a0.size : Int) x9_1 = some r) ∧ Aside0 (kq ≤ k) ∧ Drawn0 w w')
  case atStart => exact ⟨(0), (by first | rfl | (simp; done) | (simp [*]; done)), H', ⟨Nat.le_refl _⟩, by repeat (first | exact Drawn0.refl _ | apply Drawn0.step)⟩
  case round =>
   clear H'
   try clear c2
   try clear c2b0
   try clear c2b1
   try clear p2
   obtain ⟨x9_1, rfl, HA, HK1, ⟨m1, rfl⟩⟩ := hrel
   cases gk with
   | zero => exact absurd HA.out (by simp [impl_plainText.l0])
   | succ k1 =>
    have H := HA.out
    clear HA
    simp only [impl_plainText.l0] at H
    by_cases c3 : x9_1 < (a0.size : Int)
    ·rw [if_pos c3] at H
     have c3b0 : decide (x9_1 < (a0.size : Int)) = true := decide_eq_true c3
     clear c3
     by_cases c4 : 0 ≤ x9_1
     ·rw [if_pos c4] at H
      have c4b0 : decide (0 ≤ x9_1) = true := decide_eq_true c4
      clear c4
      by_cases c5 : x9_1 < (a0.size : Int)
      ·rw [if_pos c5] at H
       have c5b0 : decide (x9_1 < (a0.size : Int)) = true := decide_eq_true c5
       clear c5
       by_cases c7 : (bt a0 x9_1) < 32
       ·rw [if_pos c7] at H
        have c7b0 : decide ((bt a0 x9_1) < 32) = true := decide_eq_true c7
        clear c7
        by_cases c9 : (bt a0 x9_1) = 10
        ·rw [if_pos c9] at H
         have c9b0 : ((bt a0 x9_1) == 10) = true := beq_iff_eq.mpr c9
         have c9b1 : ((bt a0 x9_1) != 10) = false := bne_eq_false_iff_eq.mpr c9
         clear c9
         have H' := Aside0.mk H
         clear H
         have p6 : 0 ≤ (x9_1 : Int) := of_decide_eq_true (by first | (with_reducible assumption) | assumption)
         have q6 : x9_1 < (a0.size : Int) := of_decide_eq_true (by first | (with_reducible assumption) | assumption)
         have hx6 := bt_at a0 x9_1
         replace p6 := eq_true p6
         replace q6 := eq_true q6
         have p8 : 0 ≤ (x9_1 : Int) := of_decide_eq_true (by first | (with_reducible assumption) | assumption)
         have q8 : x9_1 < (a0.size : Int) := of_decide_eq_true (by first | (with_reducible assumption) | assumption)
         have hx8 := bt_at a0 x9_1
         replace p8 := eq_true p8
         replace q8 := eq_true q8
         go_wp2
         go_roundg k1
         case measure => have := HK1.out; omega
         case rel => exact ⟨(wrap64 (x9_1 + 1)), (by first | rfl | (simp; done) | (simp [*]; done)), H', ⟨by have := HK1.out; omega⟩, by repeat (first | exact Drawn0.refl _ | apply Drawn0.step)⟩
        ·rw [if_neg c9] at H
         have c9b0 : ((bt a0 x9_1) == 10) = false := beq_eq_false_iff_ne.mpr c9
         have c9b1 : ((bt a0 x9_1) != 10) = true := bne_iff_ne.mpr c9
         obtain rfl := Option.some.inj H
         have p6 : 0 ≤ (x9_1 : Int) := of_decide_eq_true (by first | (with_reducible assumption) | assumption)
         have q6 : x9_1 < (a0.size : Int) := of_decide_eq_true (by first | (with_reducible assumption) | assumption)
         have hx6 := bt_at a0 x9_1
         replace p6 := eq_true p6
         replace q6 := eq_true q6
         have p8 : 0 ≤ (x9_1 : Int) := of_decide_eq_true (by first | (with_reducible assumption) | assumption)
         have q8 : x9_1 < (a0.size : Int) := of_decide_eq_true (by first | (with_reducible assumption) | assumption)
         have hx8 := bt_at a0 x9_1
         replace p8 := eq_true p8
         replace q8 := eq_true q8
         go_wp2
         go_ret
         exact ⟨by first | rfl | (simp; done) | (simp [*]; done), by repeat (first | exact Drawn0.refl _ | apply Drawn0.step)⟩
       ·rw [if_neg c7] at H
        have c7b0 : decide ((bt a0 x9_1) < 32) = false := decide_eq_false c7
        clear c7
        have H' := Aside0.mk H
        clear H
        have p6 : 0 ≤ (x9_1 : Int) := of_decide_eq_true (by first | (with_reducible assumption) | assumption)
        have q6 : x9_1 < (a0.size : Int) := of_decide_eq_true (by first | (with_reducible assumption) | assumption)
        have hx6 := bt_at a0 x9_1
        replace p6 := eq_true p6
        replace q6 := eq_true q6
        go_wp2
        go_roundg k1
        case measure => have := HK1.out; omega
        case rel => exact ⟨(wrap64 (x9_1 + 1)), (by first | rfl | (simp; done) | (simp [*]; done)), H', ⟨by have := HK1.out; omega⟩, by repeat (first | exact Drawn0.refl _ | apply Drawn0.step)⟩
      ·rw [if_neg c5] at H
       exact absurd H (by simp)
     ·rw [if_neg c4] at H
      exact absurd H (by simp)
    ·rw [if_neg c3] at H
     have c3b0 : decide (x9_1 < (a0.size : Int)) = false := decide_eq_false c3
     clear c3
     obtain rfl := Option.some.inj H
     go_wp2
     go_ret
     exact ⟨by first | rfl | (simp; done) | (simp [*]; done), by repeat (first | exact Drawn0.refl _ | apply Drawn0.step)⟩

/-! ### impl_rising: function 55 -/
theorem leq_tri : ∀ a b : List UInt8, (Op.bytesLess a b = true ∧ Op.bytesLess b a = false ∧ (b == a) = false) ∨ (a = b ∧ Op.bytesLess a b = false) ∨ (Op.bytesLess b a = true ∧ Op.bytesLess a b = false ∧ (b == a) = false)
 | [], [] => Or.inr (Or.inl ⟨rfl, rfl⟩)
 | [], y :: b => Or.inl ⟨rfl, rfl, rfl⟩
 | x :: a, [] => Or.inr (Or.inr ⟨rfl, rfl, rfl⟩)
 | x :: a, y :: b => by
  have hlt : ∀ p q : UInt8, p < q ↔ p.toNat < q.toNat := fun p q => UInt8.lt_iff_toNat_lt
  have heq : ∀ p q : UInt8, p = q ↔ p.toNat = q.toNat := fun p q => ⟨fun h => by rw [h], fun h => UInt8.toNat_inj.1 h⟩
  unfold Op.bytesLess
  by_cases h1 : x < y
  ·have h2 : ¬ y < x := by rw [hlt] at *; omega
   have h3 : ¬ x = y := by rw [hlt, heq] at *; omega
   exact Or.inl ⟨by simp [h1], by simp [h2, Ne.symm h3], by simp [Ne.symm h3]⟩
  ·by_cases h2 : y < x
   ·have h3 : ¬ x = y := by rw [hlt, heq] at *; omega
    exact Or.inr (Or.inr ⟨by simp [h2], by simp [h1, h3], by simp [Ne.symm h3]⟩)
   ·have h3 : x = y := by rw [hlt] at *; rw [heq]; omega
    subst h3
    rcases leq_tri a b with ⟨p, q, r⟩ | ⟨p, q⟩ | ⟨p, q, r⟩
    ·exact Or.inl ⟨by simp [p], by simp [h1, q], by simpa using r⟩
    ·exact Or.inr (Or.inl ⟨by rw [p], by simp [h1, q]⟩)
    ·exact Or.inr (Or.inr ⟨by simp [p], by simp [h1, q], by simpa using r⟩)
theorem leq_l1 {a b : List UInt8} (h : Op.bytesLess a b = true) : Op.bytesLess b a = false := by
 rcases leq_tri a b with ⟨p, q, r⟩ | ⟨p, q⟩ | ⟨p, q, r⟩
 ·exact q
 ·rw [h] at q; cases q
 ·rw [h] at q; cases q
theorem leq_l2 {a b : List UInt8} (h : Op.bytesLess a b = true) : (b == a) = false := by
 rcases leq_tri a b with ⟨p, q, r⟩ | ⟨p, q⟩ | ⟨p, q, r⟩
 ·exact r
 ·rw [h] at q; cases q
 ·exact r
theorem leq_l3 {a b : List UInt8} (h : Op.bytesLess a b = false) : (Op.bytesLess b a || b == a) = true := by
 rcases leq_tri a b with ⟨p, q, r⟩ | ⟨p, q⟩ | ⟨p, q, r⟩
 ·rw [h] at p; cases p
 ·rw [p]; simp
 ·rw [p]; rfl
def impl_rising.l0 : Nat → List ByteArray → Int → Option (Bool)
 | 0, _, _ => none
 | k + 1, x0, x3 => if x3 < (x0.length : Int) then (if 0 ≤ x3 then (if 0 ≤ (wrap64 (x3 - 1)) then (if (wrap64 (x3 - 1)) < (x0.length : Int) then (if ((Op.bytesLess ((rdOf ByteArray.empty x0 (wrap64 (x3 - 1))).toList) ((rdOf ByteArray.empty x0 x3).toList)) = true) then (impl_rising.l0 k x0 (wrap64 (x3 + 1))) else (some false)) else (none)) else (none)) else (none)) else (some true)
def impl_rising.f (k : Nat) (l0 : List ByteArray) : Option (Bool) := impl_rising.l0 k l0 1
theorem impl_rising.mono_l : ∀ k, (∀ y0 y1, LeO (impl_rising.l0 k y0 y1) (impl_rising.l0 (k + 1) y0 y1))
 | 0 => fun _ _ r h => by simp [impl_rising.l0] at h
 | k + 1 => by
  have ih0 := impl_rising.mono_l k
  ·intro y0 y1
   unfold impl_rising.l0
   repeat' first
   | (with_reducible exact ih0 _ _)
   | (with_reducible exact LeO.refl _)
   | (with_reducible exact LeO.none _)
   | (with_reducible refine LeO.ite ?_ ?_)
   | (with_reducible refine LeO.bind ?_ (fun _ => ?_))
   | exact ih0 _ _
   | exact LeO.none _
   | refine LeO.ite ?_ ?_
   | refine LeO.bind ?_ (fun _ => ?_)
theorem impl_rising.mono : ∀ a0 k, LeO (impl_rising.f k a0) (impl_rising.f (k + 1) a0) := by
 intro a0 k
 have ih0 := impl_rising.mono_l k
 unfold impl_rising.f
 repeat' first
   | (with_reducible exact ih0 _ _)
   | (with_reducible exact LeO.refl _)
   | (with_reducible exact LeO.none _)
   | (with_reducible refine LeO.ite ?_ ?_)
   | (with_reducible refine LeO.bind ?_ (fun _ => ?_))
   | exact ih0 _ _
   | exact LeO.none _
   | refine LeO.ite ?_ ?_
   | refine LeO.bind ?_ (fun _ => ?_)
set_option maxHeartbeats 8000000 in
set_option maxRecDepth 100000 in
theorem impl_rising.calls (k : Nat) (A0 : Option Addr) (c0 : Nat) (l0 : List ByteArray) (r : Bool) (w : World) (hr0 : Kd.C Kd.string w A0 l0.length l0) (hc0 : l0.length ≤ c0) (h : impl_rising.f k l0 = some r) :
  Calls Try.prog 55 #[.slice A0 l0.length c0] w fun e w' => e = .returned (.bool r) ∧ Drawn0 w w' := by
 have HR0 := Aside0.mk hr0
 have HC0 := Aside0.mk hc0
 clear hr0 hc0
 have H : (impl_rising.l0 k l0 1) = some r := h
 clear h
 have H' := Aside0.mk H
 clear H
 go_enter Try.func55, Try.ntmps55
 go_wp2
 repeat (go_quiet (fail); try go_wp2)
 go_loopg [3] k (fun kq v3 w' => ∃ (x3_1 : Int), v3 = .int .i64 x3_1 ∧ Aside0 (impl_rising.l0 kq l0 x3_1 = some r) ∧ Aside0 (kq ≤ k) ∧ Drawn0 w w')
 case atStart => exact ⟨(1), (by first | rfl | (simp; done) | (simp [*]; done)), H', ⟨Nat.le_refl _⟩, by repeat (first | exact Drawn0.refl _ | apply Drawn0.step)⟩
 case round =>
  clear H'
  obtain ⟨x3_1, rfl, HA, HK1, ⟨m1, rfl⟩⟩ := hrel
  cases gk with
  | zero => exact absurd HA.out (by simp [impl_rising.l0])
  | succ k1 =>
   have H := HA.out
   clear HA
   simp only [impl_rising.l0] at H
   by_cases c2 : x3_1 < (l0.length : Int)
   ·rw [if_pos c2] at H
    have c2b0 : decide (x3_1 < (l0.length : Int)) = true := decide_eq_true c2
    clear c2
    by_cases c3 : 0 ≤ x3_1
    ·rw [if_pos c3] at H
     have c3b0 : decide (0 ≤ x3_1) = true := decide_eq_true c3
     clear c3
     obtain ⟨ji4, hji4⟩ : ∃ j_ : Int, (wrap64 (x3_1 - 1)) = j_ := ⟨_, rfl⟩
     replace H : (if 0 ≤ (ji4) then (if (ji4) < (l0.length : Int) then (if ((Op.bytesLess ((rdOf ByteArray.empty l0 (ji4)).toList) ((rdOf ByteArray.empty l0 x3_1).toList)) = true) then (impl_rising.l0 k1 l0 (wrap64 (x3_1 + 1))) else (some false)) else (none)) else (none)) = some r := by first | (rw [hji4] at H; exact H) | (simp only [hji4] at H ⊢; exact H)
     have hji4w : (IntKind.i64.wrap (x3_1 - 1)) = ji4 := (i64_w _).trans hji4
     by_cases c5 : 0 ≤ (ji4)
     ·rw [if_pos c5] at H
      have c5b0 : decide (0 ≤ (ji4)) = true := decide_eq_true c5
      clear c5
      by_cases c6 : (ji4) < (l0.length : Int)
      ·rw [if_pos c6] at H
       have c6b0 : decide ((ji4) < (l0.length : Int)) = true := decide_eq_true c6
       clear c6
       by_cases c7 : ((Op.bytesLess ((rdOf ByteArray.empty l0 (ji4)).toList) ((rdOf ByteArray.empty l0 x3_1).toList)) = true)
       ·rw [if_pos c7] at H
        have c7b0 : (Op.bytesLess ((rdOf ByteArray.empty l0 (ji4)).toList) ((rdOf ByteArray.empty l0 x3_1).toList)) = true := c7
        have c7b0l1 := leq_l1 c7b0
        have c7b0l2 := leq_l2 c7b0
        clear c7
        have H' := Aside0.mk H
        clear H
        have p200 : 0 ≤ (x3_1 : Int) := of_decide_eq_true (by first | (with_reducible assumption) | assumption)
        have q200 : x3_1 < (l0.length : Int) := of_decide_eq_true (by first | (with_reducible assumption) | assumption)
        obtain ⟨ad200, e200, hx200_0⟩ := Kd.at_string HR0.out x3_1 p200 q200
        cases e200
        replace p200 := eq_true p200
        replace q200 := eq_true q200
        have p201 : 0 ≤ ((ji4) : Int) := of_decide_eq_true (by first | (with_reducible assumption) | assumption)
        have q201 : (ji4) < (l0.length : Int) := of_decide_eq_true (by first | (with_reducible assumption) | assumption)
        obtain ⟨ad201, e201, hx201_0⟩ := Kd.at_string HR0.out (ji4) p201 q201
        obtain rfl : ad200 = ad201 := (by injection e201)
        replace p201 := eq_true p201
        replace q201 := eq_true q201
        go_wp2
        repeat (go_quiet (fail); try go_wp2)
        go_roundg k1
        case measure => have := HK1.out; omega
        case rel => exact ⟨(wrap64 (x3_1 + 1)), (by first | rfl | (simp; done) | (simp [*]; done)), H', ⟨by have := HK1.out; omega⟩, by repeat (first | exact Drawn0.refl _ | apply Drawn0.step)⟩
       ·rw [if_neg c7] at H
        have c7b0 : (Op.bytesLess ((rdOf ByteArray.empty l0 (ji4)).toList) ((rdOf ByteArray.empty l0 x3_1).toList)) = false := by simpa using c7
        have c7b0l3 := leq_l3 c7b0
        clear c7
        obtain rfl := Option.some.inj H
        have p200 : 0 ≤ (x3_1 : Int) := of_decide_eq_true (by first | (with_reducible assumption) | assumption)
        have q200 : x3_1 < (l0.length : Int) := of_decide_eq_true (by first | (with_reducible assumption) | assumption)
        obtain ⟨ad200, e200, hx200_0⟩ := Kd.at_string HR0.out x3_1 p200 q200
        cases e200
        replace p200 := eq_true p200
        replace q200 := eq_true q200
        have p201 : 0 ≤ ((ji4) : Int) := of_decide_eq_true (by first | (with_reducible assumption) | assumption)
        have q201 : (ji4) < (l0.length : Int) := of_decide_eq_true (by first | (with_reducible assumption) | assumption)
        obtain ⟨ad201, e201, hx201_0⟩ := Kd.at_string HR0.out (ji4) p201 q201
        obtain rfl : ad200 = ad201 := (by injection e201)
        replace p201 := eq_true p201
        replace q201 := eq_true q201
        go_wp2
        repeat (go_quiet (fail); try go_wp2)
        go_ret
        exact ⟨by first | rfl | (simp; done) | (simp only [← hji4] <;> (first | rfl | simp)) | (simp [*]; done), by repeat (first | exact Drawn0.refl _ | apply Drawn0.step)⟩
      ·rw [if_neg c6] at H
       exact absurd H (by simp)
     ·rw [if_neg c5] at H
      exact absurd H (by simp)
    ·rw [if_neg c3] at H
     exact absurd H (by simp)
   ·rw [if_neg c2] at H
    have c2b0 : decide (x3_1 < (l0.length : Int)) = false := decide_eq_false c2
    clear c2
    obtain rfl := Option.some.inj H
    go_wp2
    repeat (go_quiet (fail); try go_wp2)
    go_ret
    exact ⟨by first | rfl | (simp; done) | (simp [*]; done), by repeat (first | exact Drawn0.refl _ | apply Drawn0.step)⟩

end Go.Proofs.Ytklinldidfdnjaa.PFnExactDrvOk
