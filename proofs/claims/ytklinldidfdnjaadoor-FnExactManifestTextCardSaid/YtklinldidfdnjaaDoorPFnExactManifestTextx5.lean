-- Laid by a program of this session: a turned copy of the kit's print, with contracts by hand beside.
import Derived.Test.YtklinldidfdnjaaDoorPFnExactManifestTextx0
import Derived.Test.YtklinldidfdnjaaDoorPFnExactManifestTextx4
namespace Go.Proofs.YtklinldidfdnjaaDoor.PFnExactManifestText
open Go.RowKit Go.Proofs.YtklinldidfdnjaaDoorW.PrintWords Go.Proofs.YtklinldidfdnjaaDoorW.PrintLast Go.Proofs.YtklinldidfdnjaaDoorW.PrintMore
attribute [local go_sem] max2_int min2_int max_two min_two max_three min_three max_four min_four   -- for this text's walks alone
set_option linter.unusedVariables false
set_option linter.unusedSimpArgs false

/-! ### impl_AddressOk: function 53 -/
def impl_AddressOk.f (k : Nat) (a0 : ByteArray) : Option (Bool) := if (a0.size : Int) < 14 then (some false) else (if 13 < (a0.size : Int) then (if (bt a0 13) = 45 then (if 14 ≤ (a0.size : Int) then ((impl_NameOk.f k (a0.extract 14 a0.size)).bind fun t151 => (if t151 = true then (if 0 ≤ 13 then (if 13 ≤ (a0.size : Int) then ((impl_ReadWord32.f k (a0.extract 0 13)).bind fun bt152 => (some bt152.2)) else (none)) else (none)) else (some false))) else (none)) else (some false)) else (none))
theorem impl_AddressOk.mono : ∀ a0 k, LeO (impl_AddressOk.f k a0) (impl_AddressOk.f (k + 1) a0) := by
  intro a0 k
  unfold impl_AddressOk.f
  repeat' first
      | (with_reducible exact impl_NameOk.mono _ _)
      | (with_reducible exact impl_ReadWord32.mono _ _)
      | (with_reducible exact LeO.refl _)
      | (with_reducible exact LeO.none _)
      | (with_reducible refine LeO.ite ?_ ?_)
      | (with_reducible refine LeO.bind ?_ (fun _ => ?_))
      | exact impl_NameOk.mono _ _
      | exact impl_ReadWord32.mono _ _
      | exact LeO.none _
      | refine LeO.ite ?_ ?_
      | refine LeO.bind ?_ (fun _ => ?_)
set_option maxHeartbeats 8000000 in
set_option maxRecDepth 100000 in
theorem impl_AddressOk.calls (k : Nat) (a0 : ByteArray) (r : Bool) (w : World) (h : impl_AddressOk.f k a0 = some r) :
    Calls Tryd.prog 53 #[.string a0] w fun e w' => e = .returned (.bool r) ∧ Drawn0 w w' := by
  have H : (if (a0.size : Int) < 14 then (some false) else (if 13 < (a0.size : Int) then (if (bt a0 13) = 45 then (if 14 ≤ (a0.size : Int) then ((impl_NameOk.f k (a0.extract 14 a0.size)).bind fun t151 => (if t151 = true then (if 0 ≤ 13 then (if 13 ≤ (a0.size : Int) then ((impl_ReadWord32.f k (a0.extract 0 13)).bind fun bt152 => (some bt152.2)) else (none)) else (none)) else (some false))) else (none)) else (some false)) else (none))) = some r := h
  clear h
  by_cases c2 : (a0.size : Int) < 14
  · rw [if_pos c2] at H
    have c2b0 : decide ((a0.size : Int) < 14) = true := decide_eq_true c2
    have c2b1 : decide (a0.size < 14) = true := decide_eq_true (by omega)
    clear c2
    obtain rfl := Option.some.inj H
    go_enter Tryd.func53, Tryd.ntmps53
    go_wp2
    go_ret
    exact ⟨by first | rfl | (simp; done) | (simp [*]; done), by repeat (first | exact Drawn0.refl _ | apply Drawn0.step)⟩
  · rw [if_neg c2] at H
    have c2b0 : decide ((a0.size : Int) < 14) = false := decide_eq_false c2
    have c2b1 : decide (a0.size < 14) = false := decide_eq_false (by omega)
    clear c2
    by_cases c3 : 13 < (a0.size : Int)
    · rw [if_pos c3] at H
      have c3b0 : decide (13 < (a0.size : Int)) = true := decide_eq_true c3
      have c3b1 : decide (13 < a0.size) = true := decide_eq_true (by omega)
      clear c3
      by_cases c5 : (bt a0 13) = 45
      · rw [if_pos c5] at H
        have c5b0 : ((bt a0 13) == 45) = true := beq_iff_eq.mpr c5
        have c5b1 : ((bt a0 13) != 45) = false := bne_eq_false_iff_eq.mpr c5
        clear c5
        by_cases c6 : 14 ≤ (a0.size : Int)
        · rw [if_pos c6] at H
          have c6b0 := eq_true c6
          have c6b1 : decide (14 ≤ (a0.size : Int)) = true := decide_eq_true c6
          clear c6
          replace H := Option.bind_eq_some_iff.mp H
          obtain ⟨t151, A70, H⟩ := H
          replace H : (if t151 = true then (if 0 ≤ 13 then (if 13 ≤ (a0.size : Int) then ((impl_ReadWord32.f k (a0.extract 0 13)).bind fun bt152 => (some bt152.2)) else (none)) else (none)) else (some false)) = some r := H
          have A7 := Aside0.mk A70
          clear A70
          by_cases c8 : t151 = true
          · subst c8
            have H1 : (if 0 ≤ 13 then (if 13 ≤ (a0.size : Int) then ((impl_ReadWord32.f k (a0.extract 0 13)).bind fun bt152 => (some bt152.2)) else (none)) else (none)) = some r := by rw [if_pos rfl] at H; exact H
            clear H
            have H := H1
            clear H1
            by_cases c9 : 0 ≤ 13
            · rw [if_pos c9] at H
              have c9b0 := eq_true c9
              have c9b1 : decide (0 ≤ 13) = true := decide_eq_true c9
              clear c9
              by_cases c10 : 13 ≤ (a0.size : Int)
              · rw [if_pos c10] at H
                have c10b0 := eq_true c10
                have c10b1 : decide (13 ≤ (a0.size : Int)) = true := decide_eq_true c10
                clear c10
                replace H := Option.bind_eq_some_iff.mp H
                obtain ⟨⟨t152, t153⟩, A110, H⟩ := H
                replace H : (some t153) = some r := H
                have A11 := Aside0.mk A110
                clear A110
                obtain rfl := Option.some.inj H
                have p4 : 0 ≤ (13 : Int) := (by omega)
                have q4 : 13 < a0.size := (by have : (13 : Int) < (a0.size : Int) := of_decide_eq_true (by first | (with_reducible assumption) | assumption); omega)
                have hx4 : ∀ h : 13 < a0.size, ((a0[13]'h).toNat : Int) = bt a0 13 := bt_at a0 13
                clear p4
                have qi4 : (13 < (a0.size : Int)) = True := eq_true (of_decide_eq_true (by first | (with_reducible assumption) | assumption))
                replace q4 := eq_true q4
                go_enter Tryd.func53, Tryd.ntmps53
                go_wp2_with (first | (go_at_call 34; (with_reducible refine (impl_NameOk.calls k (a0.extract 14 a0.size) true _ A7.out).mono ?_); rintro e w' ⟨rfl, ⟨nd, rfl⟩⟩) | ((with_reducible refine gate_callee (f := 35) rfl ?_); refine goesL_ (some 22) rfl rfl Tryd.func35 (by kernel_rfl) rfl #[.string (a0.extract 0 13)] rfl (by (try simp only [List.map_toArray, List.map_cons, List.map_nil]); first | done | rfl | (simp only [List.length_drop, List.length_take]; rfl)) ?_; (with_reducible refine (impl_ReadWord32.calls k (a0.extract 0 13) t152 t153 _ A11.out).mono ?_); rintro e w' ⟨rfl, ⟨nd, rfl⟩⟩; refine ⟨_, rfl, ?_⟩))
                go_ret
                exact ⟨by first | rfl | (simp; done) | (simp [*]; done), by repeat (first | exact Drawn0.refl _ | apply Drawn0.step)⟩
              · rw [if_neg c10] at H
                exact absurd H (by simp)
            · rw [if_neg c9] at H
              exact absurd H (by simp)
          · replace c8 := Bool.eq_false_iff.mpr c8
            subst c8
            have H1 : (some false) = some r := by rw [if_neg (show ¬ (false = true) by decide)] at H; exact H
            clear H
            have H := H1
            clear H1
            obtain rfl := Option.some.inj H
            have p4 : 0 ≤ (13 : Int) := (by omega)
            have q4 : 13 < a0.size := (by have : (13 : Int) < (a0.size : Int) := of_decide_eq_true (by first | (with_reducible assumption) | assumption); omega)
            have hx4 : ∀ h : 13 < a0.size, ((a0[13]'h).toNat : Int) = bt a0 13 := bt_at a0 13
            clear p4
            have qi4 : (13 < (a0.size : Int)) = True := eq_true (of_decide_eq_true (by first | (with_reducible assumption) | assumption))
            replace q4 := eq_true q4
            go_enter Tryd.func53, Tryd.ntmps53
            go_wp2_with (first | (go_at_call 34; (with_reducible refine (impl_NameOk.calls k (a0.extract 14 a0.size) false _ A7.out).mono ?_); rintro e w' ⟨rfl, ⟨nd, rfl⟩⟩))
            go_ret
            exact ⟨by first | rfl | (simp; done) | (simp [*]; done), by repeat (first | exact Drawn0.refl _ | apply Drawn0.step)⟩
        · rw [if_neg c6] at H
          exact absurd H (by simp)
      · rw [if_neg c5] at H
        have c5b0 : ((bt a0 13) == 45) = false := beq_eq_false_iff_ne.mpr c5
        have c5b1 : ((bt a0 13) != 45) = true := bne_iff_ne.mpr c5
        obtain rfl := Option.some.inj H
        have p4 : 0 ≤ (13 : Int) := (by omega)
        have q4 : 13 < a0.size := (by have : (13 : Int) < (a0.size : Int) := of_decide_eq_true (by first | (with_reducible assumption) | assumption); omega)
        have hx4 : ∀ h : 13 < a0.size, ((a0[13]'h).toNat : Int) = bt a0 13 := bt_at a0 13
        clear p4
        have qi4 : (13 < (a0.size : Int)) = True := eq_true (of_decide_eq_true (by first | (with_reducible assumption) | assumption))
        replace q4 := eq_true q4
        go_enter Tryd.func53, Tryd.ntmps53
        go_wp2
        go_ret
        exact ⟨by first | rfl | (simp; done) | (simp [*]; done), by repeat (first | exact Drawn0.refl _ | apply Drawn0.step)⟩
    · rw [if_neg c3] at H
      exact absurd H (by simp)

/-! ### impl_rising_hs: function 54 -/
def impl_rising_hs.l0 : Nat → List ByteArray → Int → Option (Bool)
  | 0, _, _ => none
  | k + 1, x0, x3 => if x3 < (x0.length : Int) then (if 0 ≤ (wrap64 (x3 - 1)) then (if (wrap64 (x3 - 1)) < (x0.length : Int) then (if 0 ≤ x3 then (if ((Op.bytesLess ((rdOf ByteArray.empty x0 (wrap64 (x3 - 1))).toList) ((rdOf ByteArray.empty x0 x3).toList)) = true) then (impl_rising_hs.l0 k x0 (wrap64 (x3 + 1))) else (some false)) else (none)) else (none)) else (none)) else (some true)
def impl_rising_hs.f (k : Nat) (l0 : List ByteArray) : Option (Bool) := impl_rising_hs.l0 k l0 1
theorem impl_rising_hs.mono_l : ∀ k, (∀ y0 y1, LeO (impl_rising_hs.l0 k y0 y1) (impl_rising_hs.l0 (k + 1) y0 y1))
  | 0 => fun _ _ r h => by simp [impl_rising_hs.l0] at h
  | k + 1 => by
    have ih0 := impl_rising_hs.mono_l k
    · intro y0 y1
      unfold impl_rising_hs.l0
      repeat' first
      | (with_reducible exact ih0 _ _)
      | (with_reducible exact LeO.refl _)
      | (with_reducible exact LeO.none _)
      | (with_reducible refine LeO.ite ?_ ?_)
      | (with_reducible refine LeO.bind ?_ (fun _ => ?_))
      | exact ih0 _ _
      | exact LeO.none _
      | refine LeO.ite ?_ ?_
      | refine LeO.bind ?_ (fun _ => ?_)
theorem impl_rising_hs.mono : ∀ a0 k, LeO (impl_rising_hs.f k a0) (impl_rising_hs.f (k + 1) a0) := by
  intro a0 k
  have ih0 := impl_rising_hs.mono_l k
  unfold impl_rising_hs.f
  repeat' first
      | (with_reducible exact ih0 _ _)
      | (with_reducible exact LeO.refl _)
      | (with_reducible exact LeO.none _)
      | (with_reducible refine LeO.ite ?_ ?_)
      | (with_reducible refine LeO.bind ?_ (fun _ => ?_))
      | exact ih0 _ _
      | exact LeO.none _
      | refine LeO.ite ?_ ?_
      | refine LeO.bind ?_ (fun _ => ?_)
set_option maxHeartbeats 8000000 in
set_option maxRecDepth 100000 in
theorem impl_rising_hs.calls (k : Nat) (A0 : Option Addr) (c0 : Nat) (l0 : List ByteArray) (r : Bool) (w : World) (hr0 : Kd.C Kd.string w A0 l0.length l0) (hc0 : l0.length ≤ c0) (h : impl_rising_hs.f k l0 = some r) :
    Calls Tryd.prog 54 #[.slice A0 l0.length c0] w fun e w' => e = .returned (.bool r) ∧ Drawn0 w w' := by
  have HR0 := Aside0.mk hr0
  have HC0 := Aside0.mk hc0
  clear hr0 hc0
  have H : (impl_rising_hs.l0 k l0 1) = some r := h
  clear h
  have H' := Aside0.mk H
  clear H
  go_enter Tryd.func54, Tryd.ntmps54
  go_wp2
  repeat (go_quiet (fail); try go_wp2)
  go_loopg [3] k (fun kq v3 w' => ∃ (x3_1 : Int), v3 = .int .i64 x3_1 ∧ Aside0 (impl_rising_hs.l0 kq l0 x3_1 = some r) ∧ Aside0 (kq ≤ k) ∧ Drawn0 w w')
  case atStart => exact ⟨(1), (by first | rfl | (simp; done) | (simp [*]; done) | (simp; (generalize ByteArray.toList _ = q; cases q <;> rfl))), H', ⟨Nat.le_refl _⟩, by repeat (first | exact Drawn0.refl _ | apply Drawn0.step)⟩
  case round =>
    clear H'
    obtain ⟨x3_1, rfl, HA, HK1, ⟨m1, rfl⟩⟩ := hrel
    cases gk with
    | zero => exact absurd HA.out (by simp [impl_rising_hs.l0])
    | succ k1 =>
      have H := HA.out
      clear HA
      simp only [impl_rising_hs.l0] at H
      by_cases c2 : x3_1 < (l0.length : Int)
      · rw [if_pos c2] at H
        have c2b0 : decide (x3_1 < (l0.length : Int)) = true := decide_eq_true c2
        clear c2
        obtain ⟨ji3, hji3⟩ : ∃ j_ : Int, (wrap64 (x3_1 - 1)) = j_ := ⟨_, rfl⟩
        replace H : (if 0 ≤ (ji3) then (if (ji3) < (l0.length : Int) then (if 0 ≤ x3_1 then (if ((Op.bytesLess ((rdOf ByteArray.empty l0 (ji3)).toList) ((rdOf ByteArray.empty l0 x3_1).toList)) = true) then (impl_rising_hs.l0 k1 l0 (wrap64 (x3_1 + 1))) else (some false)) else (none)) else (none)) else (none)) = some r := by first | (rw [hji3] at H; exact H) | (simp only [hji3] at H ⊢; exact H)
        have hji3w : (IntKind.i64.wrap (x3_1 - 1)) = ji3 := (i64_w _).trans hji3
        by_cases c4 : 0 ≤ (ji3)
        · rw [if_pos c4] at H
          have c4b0 : decide (0 ≤ (ji3)) = true := decide_eq_true c4
          clear c4
          by_cases c5 : (ji3) < (l0.length : Int)
          · rw [if_pos c5] at H
            have c5b0 : decide ((ji3) < (l0.length : Int)) = true := decide_eq_true c5
            clear c5
            by_cases c6 : 0 ≤ x3_1
            · rw [if_pos c6] at H
              have c6b0 : decide (0 ≤ x3_1) = true := decide_eq_true c6
              clear c6
              by_cases c7 : ((Op.bytesLess ((rdOf ByteArray.empty l0 (ji3)).toList) ((rdOf ByteArray.empty l0 x3_1).toList)) = true)
              · rw [if_pos c7] at H
                have c7b0 : (Op.bytesLess ((rdOf ByteArray.empty l0 (ji3)).toList) ((rdOf ByteArray.empty l0 x3_1).toList)) = true := c7
                clear c7
                have H' := Aside0.mk H
                clear H
                have p154 : 0 ≤ ((ji3) : Int) := of_decide_eq_true (by first | (with_reducible assumption) | assumption)
                have q154 : (ji3) < (l0.length : Int) := of_decide_eq_true (by first | (with_reducible assumption) | assumption)
                obtain ⟨ad154, e154, hx154_0⟩ := Kd.at_string HR0.out (ji3) p154 q154
                cases e154
                replace p154 := eq_true p154
                replace q154 := eq_true q154
                have p155 : 0 ≤ (x3_1 : Int) := of_decide_eq_true (by first | (with_reducible assumption) | assumption)
                have q155 : x3_1 < (l0.length : Int) := of_decide_eq_true (by first | (with_reducible assumption) | assumption)
                obtain ⟨ad155, e155, hx155_0⟩ := Kd.at_string HR0.out x3_1 p155 q155
                obtain rfl : ad154 = ad155 := (by injection e155)
                replace p155 := eq_true p155
                replace q155 := eq_true q155
                go_wp2
                repeat (go_quiet (fail); try go_wp2)
                go_roundg k1
                case measure => have := HK1.out; omega
                case rel => exact ⟨(wrap64 (x3_1 + 1)), (by first | rfl | (simp; done) | (simp [*]; done) | (simp; (generalize ByteArray.toList _ = q; cases q <;> rfl))), (by first | exact H' | (rw [hji3]; exact H')), ⟨by have := HK1.out; omega⟩, by repeat (first | exact Drawn0.refl _ | apply Drawn0.step)⟩
              · rw [if_neg c7] at H
                have c7b0 : (Op.bytesLess ((rdOf ByteArray.empty l0 (ji3)).toList) ((rdOf ByteArray.empty l0 x3_1).toList)) = false := by simpa using c7
                clear c7
                obtain rfl := Option.some.inj H
                have p154 : 0 ≤ ((ji3) : Int) := of_decide_eq_true (by first | (with_reducible assumption) | assumption)
                have q154 : (ji3) < (l0.length : Int) := of_decide_eq_true (by first | (with_reducible assumption) | assumption)
                obtain ⟨ad154, e154, hx154_0⟩ := Kd.at_string HR0.out (ji3) p154 q154
                cases e154
                replace p154 := eq_true p154
                replace q154 := eq_true q154
                have p155 : 0 ≤ (x3_1 : Int) := of_decide_eq_true (by first | (with_reducible assumption) | assumption)
                have q155 : x3_1 < (l0.length : Int) := of_decide_eq_true (by first | (with_reducible assumption) | assumption)
                obtain ⟨ad155, e155, hx155_0⟩ := Kd.at_string HR0.out x3_1 p155 q155
                obtain rfl : ad154 = ad155 := (by injection e155)
                replace p155 := eq_true p155
                replace q155 := eq_true q155
                go_wp2
                repeat (go_quiet (fail); try go_wp2)
                go_ret
                exact ⟨by first | rfl | (simp; done) | (simp only [← hji3] <;> (first | rfl | simp)) | (simp [*]; done), by repeat (first | exact Drawn0.refl _ | apply Drawn0.step)⟩
            · rw [if_neg c6] at H
              exact absurd H (by simp)
          · rw [if_neg c5] at H
            exact absurd H (by simp)
        · rw [if_neg c4] at H
          exact absurd H (by simp)
      · rw [if_neg c2] at H
        have c2b0 : decide (x3_1 < (l0.length : Int)) = false := decide_eq_false c2
        clear c2
        obtain rfl := Option.some.inj H
        go_wp2
        repeat (go_quiet (fail); try go_wp2)
        go_ret
        exact ⟨by first | rfl | (simp; done) | (simp [*]; done), by repeat (first | exact Drawn0.refl _ | apply Drawn0.step)⟩

/-! ### strconv_FormatInt: function 83 -/
def strconv_FormatInt.f (a0 a1 : Int) : Option ByteArray := if a1 = 10 ∧ 0 ≤ a0 ∧ a0 ≤ 1000000000 then some ⟨(Lib.itoa a0).toArray⟩ else none
theorem tab_below {P : Program} {w w' : World} {name : String} {k : IntKind} {zs : List Int} (h : Lib.TabIs P w name k zs) (hb : Below w.heap.size w w') : Lib.TabIs P w' name k zs := by
  unfold Lib.TabIs World.var? at *
  obtain ⟨g, hg, h2⟩ := Option.bind_eq_some_iff.mp h
  rw [hg]
  show (match w'.heap[g]? with | some (.cells cs _ _) => some cs | _ => none) = _
  have hlt : g < w.heap.size := by
    rcases Nat.lt_or_ge g w.heap.size with c | c
    · exact c
    · rw [Array.getElem?_eq_none c] at h2
      exact absurd h2 (by simp)
  rw [hb.block g hlt]
  exact h2
theorem strconv_FormatInt.calls (a0 a1 : Int) (r : ByteArray) (w : World) (hT : Lib.TabIs Tryd.prog w "internal/strconv.uint64pow10" .u64 Lib.pow10Tab) (h : strconv_FormatInt.f a0 a1 = some r) :
    Calls Tryd.prog 83 #[.int .i64 a0, .int .i64 a1] w fun e w' => e = .returned (.string r) ∧ Below w.heap.size w w' := by
  unfold strconv_FormatInt.f at h
  by_cases c : a1 = 10 ∧ 0 ≤ a0 ∧ a0 ≤ 1000000000
  · rw [if_pos c] at h
    obtain rfl := Option.some.inj h
    obtain ⟨rfl, h0, h1⟩ := c
    refine (Any.strconv_FormatInt_10 Tryd.laysM173 a0 (by omega) (by omega) w hT).mono fun e w' ⟨he, k, os, hw⟩ => ⟨he, ?_⟩
    subst hw
    refine ⟨rfl, rfl, rfl, ?_, fun j hj => ?_⟩
    · show w.heap.size ≤ (w.heap ++ os).size
      rw [Array.size_append]
      omega
    · show (w.heap ++ os)[j]? = w.heap[j]?
      exact Array.getElem?_append_left hj
  · rw [if_neg c] at h
    exact absurd h (by simp)

/-! ### impl_manifestHead: function 55 -/
def impl_manifestHead.l0 : Nat → ByteArray → List ByteArray → Int → Int → Option (ByteArray)
  | 0, _, _, _, _ => none
  | k + 1, x3, x20, x21, x22 => if x22 < x21 then (if 0 ≤ x22 then (if x22 < (x20.length : Int) then (if 4 + (rdOf ByteArray.empty x20 x22).size ≤ 9223372036854775807 then (if ((⟨#[114, 101, 102, 32]⟩ : ByteArray) ++ (rdOf ByteArray.empty x20 x22)).size + 1 ≤ 9223372036854775807 then (if x3.size + (((⟨#[114, 101, 102, 32]⟩ : ByteArray) ++ (rdOf ByteArray.empty x20 x22)) ++ (⟨#[10]⟩ : ByteArray)).size ≤ 9223372036854775807 then (impl_manifestHead.l0 k (x3 ++ (((⟨#[114, 101, 102, 32]⟩ : ByteArray) ++ (rdOf ByteArray.empty x20 x22)) ++ (⟨#[10]⟩ : ByteArray))) x20 x21 (wrap64 (x22 + 1))) else (none)) else (none)) else (none)) else (none)) else (none)) else (some x3)
def impl_manifestHead.f (k : Nat) (a0_0 : ByteArray) (a0_1 : ByteArray) (a0_2 : Int) (l0_3 : List ByteArray) (a0_4 : ByteArray) (a0_5 : Int) : Option (ByteArray) := if 5 + a0_0.size ≤ 9223372036854775807 then (if ((⟨#[112, 97, 116, 104, 32]⟩ : ByteArray) ++ a0_0).size + 5 ≤ 9223372036854775807 then (if (((⟨#[112, 97, 116, 104, 32]⟩ : ByteArray) ++ a0_0) ++ (⟨#[10, 115, 117, 109, 32]⟩ : ByteArray)).size + a0_1.size ≤ 9223372036854775807 then (if ((((⟨#[112, 97, 116, 104, 32]⟩ : ByteArray) ++ a0_0) ++ (⟨#[10, 115, 117, 109, 32]⟩ : ByteArray)) ++ a0_1).size + 6 ≤ 9223372036854775807 then ((strconv_FormatInt.f a0_2 10).bind fun t157 => (if (((((⟨#[112, 97, 116, 104, 32]⟩ : ByteArray) ++ a0_0) ++ (⟨#[10, 115, 117, 109, 32]⟩ : ByteArray)) ++ a0_1) ++ (⟨#[10, 115, 105, 122, 101, 32]⟩ : ByteArray)).size + t157.size ≤ 9223372036854775807 then (if ((((((⟨#[112, 97, 116, 104, 32]⟩ : ByteArray) ++ a0_0) ++ (⟨#[10, 115, 117, 109, 32]⟩ : ByteArray)) ++ a0_1) ++ (⟨#[10, 115, 105, 122, 101, 32]⟩ : ByteArray)) ++ t157).size + 1 ≤ 9223372036854775807 then (impl_manifestHead.l0 k (((((((⟨#[112, 97, 116, 104, 32]⟩ : ByteArray) ++ a0_0) ++ (⟨#[10, 115, 117, 109, 32]⟩ : ByteArray)) ++ a0_1) ++ (⟨#[10, 115, 105, 122, 101, 32]⟩ : ByteArray)) ++ t157) ++ (⟨#[10]⟩ : ByteArray)) l0_3 (l0_3.length : Int) 0) else (none)) else (none))) else (none)) else (none)) else (none)) else (none)
theorem impl_manifestHead.mono_l : ∀ k, (∀ y0 y1 y2 y3, LeO (impl_manifestHead.l0 k y0 y1 y2 y3) (impl_manifestHead.l0 (k + 1) y0 y1 y2 y3))
  | 0 => fun _ _ _ _ r h => by simp [impl_manifestHead.l0] at h
  | k + 1 => by
    have ih0 := impl_manifestHead.mono_l k
    · intro y0 y1 y2 y3
      unfold impl_manifestHead.l0
      repeat' first
      | (with_reducible exact ih0 _ _ _ _)
      | (with_reducible exact LeO.refl _)
      | (with_reducible exact LeO.none _)
      | (with_reducible refine LeO.ite ?_ ?_)
      | (with_reducible refine LeO.bind ?_ (fun _ => ?_))
      | exact ih0 _ _ _ _
      | exact LeO.none _
      | refine LeO.ite ?_ ?_
      | refine LeO.bind ?_ (fun _ => ?_)
theorem impl_manifestHead.mono : ∀ a0 a1 a2 a3 a4 a5 k, LeO (impl_manifestHead.f k a0 a1 a2 a3 a4 a5) (impl_manifestHead.f (k + 1) a0 a1 a2 a3 a4 a5) := by
  intro a0 a1 a2 a3 a4 a5 k
  have ih0 := impl_manifestHead.mono_l k
  unfold impl_manifestHead.f
  repeat' first
      | (with_reducible exact ih0 _ _ _ _)
      | (with_reducible exact LeO.refl _)
      | (with_reducible exact LeO.none _)
      | (with_reducible refine LeO.ite ?_ ?_)
      | (with_reducible refine LeO.bind ?_ (fun _ => ?_))
      | exact ih0 _ _ _ _
      | exact LeO.none _
      | refine LeO.ite ?_ ?_
      | refine LeO.bind ?_ (fun _ => ?_)
def impl_manifestHead.T1 : Bool × List (List Nat × List Nat) := (true, [([], []), ([0], [0]), ([1], [1]), ([2], [2]), ([], []), ([4], [4]), ([3, 5], [3, 5]), ([6], [6]), ([], []), ([8], [8]), ([9], [9]), ([7, 10], [7, 10]), ([11], [11]), ([12, 10, 0, 1, 2, 3, 4, 5, 6, 7, 8, 9, 10, 11, 12], [12])])
def impl_manifestHead.B1 : List Nat := [0, 1, 3, 7, 0, 16, 63, 127, 0, 256, 768, 2047, 4095, 8191]
theorem impl_manifestHead.tab1 : rtab .any (opsOf Tryd.f55 1) = impl_manifestHead.T1 := by kernel_rfl
theorem impl_manifestHead.bits1 : waitsOk impl_manifestHead.T1.2 impl_manifestHead.B1 = true := by kernel_rfl
set_option maxHeartbeats 8000000 in
set_option maxRecDepth 100000 in
theorem impl_manifestHead.calls (k : Nat) (a0_0 : ByteArray) (a0_1 : ByteArray) (a0_2 : Int) (A0_3 : Option Addr) (c0_3 : Nat) (l0_3 : List ByteArray) (a0_4 : ByteArray) (a0_5 : Int) (r : ByteArray) (w : World) (hr0_3 : Kd.C Kd.string w A0_3 l0_3.length l0_3) (hc0_3 : l0_3.length ≤ c0_3) (hT : Lib.TabIs Tryd.prog w "internal/strconv.uint64pow10" .u64 Lib.pow10Tab) (h : impl_manifestHead.f k a0_0 a0_1 a0_2 l0_3 a0_4 a0_5 = some r) :
    Calls Tryd.prog 55 #[.agg #[.string a0_0, .string a0_1, .int .i64 a0_2, .slice A0_3 l0_3.length c0_3, .string a0_4, .int .u64 a0_5]] w fun e w' => e = .returned (.string r) ∧ Below w.heap.size w w' := by
  have hu36 := Tryd.underlying36
  have HR0_3 := Aside0.mk hr0_3
  have HC0_3 := Aside0.mk hc0_3
  clear hr0_3 hc0_3
  have HTT := Aside0.mk hT
  clear hT
  have HB := Aside0.mk (Below.refl w.heap.size w)
  have H : (if 5 + a0_0.size ≤ 9223372036854775807 then (if ((⟨#[112, 97, 116, 104, 32]⟩ : ByteArray) ++ a0_0).size + 5 ≤ 9223372036854775807 then (if (((⟨#[112, 97, 116, 104, 32]⟩ : ByteArray) ++ a0_0) ++ (⟨#[10, 115, 117, 109, 32]⟩ : ByteArray)).size + a0_1.size ≤ 9223372036854775807 then (if ((((⟨#[112, 97, 116, 104, 32]⟩ : ByteArray) ++ a0_0) ++ (⟨#[10, 115, 117, 109, 32]⟩ : ByteArray)) ++ a0_1).size + 6 ≤ 9223372036854775807 then ((strconv_FormatInt.f a0_2 10).bind fun t157 => (if (((((⟨#[112, 97, 116, 104, 32]⟩ : ByteArray) ++ a0_0) ++ (⟨#[10, 115, 117, 109, 32]⟩ : ByteArray)) ++ a0_1) ++ (⟨#[10, 115, 105, 122, 101, 32]⟩ : ByteArray)).size + t157.size ≤ 9223372036854775807 then (if ((((((⟨#[112, 97, 116, 104, 32]⟩ : ByteArray) ++ a0_0) ++ (⟨#[10, 115, 117, 109, 32]⟩ : ByteArray)) ++ a0_1) ++ (⟨#[10, 115, 105, 122, 101, 32]⟩ : ByteArray)) ++ t157).size + 1 ≤ 9223372036854775807 then (impl_manifestHead.l0 k (((((((⟨#[112, 97, 116, 104, 32]⟩ : ByteArray) ++ a0_0) ++ (⟨#[10, 115, 117, 109, 32]⟩ : ByteArray)) ++ a0_1) ++ (⟨#[10, 115, 105, 122, 101, 32]⟩ : ByteArray)) ++ t157) ++ (⟨#[10]⟩ : ByteArray)) l0_3 (l0_3.length : Int) 0) else (none)) else (none))) else (none)) else (none)) else (none)) else (none)) = some r := h
  clear h
  by_cases c2 : 5 + a0_0.size ≤ 9223372036854775807
  · rw [if_pos c2] at H
    have c2b0 := eq_true c2
    have c2b1 : decide (5 + a0_0.size ≤ 9223372036854775807) = true := decide_eq_true c2
    try have c2b2 : (9223372036854775807 < 5 + a0_0.size) = False := eq_false (Nat.not_lt.2 c2)
    try (have c2b3 := Nat.not_lt.2 c2; simp only [ByteArray.size_append, ByteArray.size_mk', List.size_toArray, List.length_cons, List.length_nil, Nat.zero_add, Nat.reduceAdd] at c2b3; replace c2b3 := eq_false c2b3)
    by_cases c3 : ((⟨#[112, 97, 116, 104, 32]⟩ : ByteArray) ++ a0_0).size + 5 ≤ 9223372036854775807
    · rw [if_pos c3] at H
      have c3b0 := eq_true c3
      have c3b1 : decide (((⟨#[112, 97, 116, 104, 32]⟩ : ByteArray) ++ a0_0).size + 5 ≤ 9223372036854775807) = true := decide_eq_true c3
      try have c3b2 : (9223372036854775807 < ((⟨#[112, 97, 116, 104, 32]⟩ : ByteArray) ++ a0_0).size + 5) = False := eq_false (Nat.not_lt.2 c3)
      try (have c3b3 := Nat.not_lt.2 c3; simp only [ByteArray.size_append, ByteArray.size_mk', List.size_toArray, List.length_cons, List.length_nil, Nat.zero_add, Nat.reduceAdd] at c3b3; replace c3b3 := eq_false c3b3)
      by_cases c4 : (((⟨#[112, 97, 116, 104, 32]⟩ : ByteArray) ++ a0_0) ++ (⟨#[10, 115, 117, 109, 32]⟩ : ByteArray)).size + a0_1.size ≤ 9223372036854775807
      · rw [if_pos c4] at H
        have c4b0 := eq_true c4
        have c4b1 : decide ((((⟨#[112, 97, 116, 104, 32]⟩ : ByteArray) ++ a0_0) ++ (⟨#[10, 115, 117, 109, 32]⟩ : ByteArray)).size + a0_1.size ≤ 9223372036854775807) = true := decide_eq_true c4
        try have c4b2 : (9223372036854775807 < (((⟨#[112, 97, 116, 104, 32]⟩ : ByteArray) ++ a0_0) ++ (⟨#[10, 115, 117, 109, 32]⟩ : ByteArray)).size + a0_1.size) = False := eq_false (Nat.not_lt.2 c4)
        try (have c4b3 := Nat.not_lt.2 c4; simp only [ByteArray.size_append, ByteArray.size_mk', List.size_toArray, List.length_cons, List.length_nil, Nat.zero_add, Nat.reduceAdd] at c4b3; replace c4b3 := eq_false c4b3)
        by_cases c5 : ((((⟨#[112, 97, 116, 104, 32]⟩ : ByteArray) ++ a0_0) ++ (⟨#[10, 115, 117, 109, 32]⟩ : ByteArray)) ++ a0_1).size + 6 ≤ 9223372036854775807
        · rw [if_pos c5] at H
          have c5b0 := eq_true c5
          have c5b1 : decide (((((⟨#[112, 97, 116, 104, 32]⟩ : ByteArray) ++ a0_0) ++ (⟨#[10, 115, 117, 109, 32]⟩ : ByteArray)) ++ a0_1).size + 6 ≤ 9223372036854775807) = true := decide_eq_true c5
          try have c5b2 : (9223372036854775807 < ((((⟨#[112, 97, 116, 104, 32]⟩ : ByteArray) ++ a0_0) ++ (⟨#[10, 115, 117, 109, 32]⟩ : ByteArray)) ++ a0_1).size + 6) = False := eq_false (Nat.not_lt.2 c5)
          try (have c5b3 := Nat.not_lt.2 c5; simp only [ByteArray.size_append, ByteArray.size_mk', List.size_toArray, List.length_cons, List.length_nil, Nat.zero_add, Nat.reduceAdd] at c5b3; replace c5b3 := eq_false c5b3)
          replace H := Option.bind_eq_some_iff.mp H
          obtain ⟨t157, A60, H⟩ := H
          replace H : (if (((((⟨#[112, 97, 116, 104, 32]⟩ : ByteArray) ++ a0_0) ++ (⟨#[10, 115, 117, 109, 32]⟩ : ByteArray)) ++ a0_1) ++ (⟨#[10, 115, 105, 122, 101, 32]⟩ : ByteArray)).size + t157.size ≤ 9223372036854775807 then (if ((((((⟨#[112, 97, 116, 104, 32]⟩ : ByteArray) ++ a0_0) ++ (⟨#[10, 115, 117, 109, 32]⟩ : ByteArray)) ++ a0_1) ++ (⟨#[10, 115, 105, 122, 101, 32]⟩ : ByteArray)) ++ t157).size + 1 ≤ 9223372036854775807 then (impl_manifestHead.l0 k (((((((⟨#[112, 97, 116, 104, 32]⟩ : ByteArray) ++ a0_0) ++ (⟨#[10, 115, 117, 109, 32]⟩ : ByteArray)) ++ a0_1) ++ (⟨#[10, 115, 105, 122, 101, 32]⟩ : ByteArray)) ++ t157) ++ (⟨#[10]⟩ : ByteArray)) l0_3 (l0_3.length : Int) 0) else (none)) else (none)) = some r := H
          have A6 := Aside0.mk A60
          clear A60
          by_cases c7 : (((((⟨#[112, 97, 116, 104, 32]⟩ : ByteArray) ++ a0_0) ++ (⟨#[10, 115, 117, 109, 32]⟩ : ByteArray)) ++ a0_1) ++ (⟨#[10, 115, 105, 122, 101, 32]⟩ : ByteArray)).size + t157.size ≤ 9223372036854775807
          · rw [if_pos c7] at H
            have c7b0 := eq_true c7
            have c7b1 : decide ((((((⟨#[112, 97, 116, 104, 32]⟩ : ByteArray) ++ a0_0) ++ (⟨#[10, 115, 117, 109, 32]⟩ : ByteArray)) ++ a0_1) ++ (⟨#[10, 115, 105, 122, 101, 32]⟩ : ByteArray)).size + t157.size ≤ 9223372036854775807) = true := decide_eq_true c7
            try have c7b2 : (9223372036854775807 < (((((⟨#[112, 97, 116, 104, 32]⟩ : ByteArray) ++ a0_0) ++ (⟨#[10, 115, 117, 109, 32]⟩ : ByteArray)) ++ a0_1) ++ (⟨#[10, 115, 105, 122, 101, 32]⟩ : ByteArray)).size + t157.size) = False := eq_false (Nat.not_lt.2 c7)
            try (have c7b3 := Nat.not_lt.2 c7; simp only [ByteArray.size_append, ByteArray.size_mk', List.size_toArray, List.length_cons, List.length_nil, Nat.zero_add, Nat.reduceAdd] at c7b3; replace c7b3 := eq_false c7b3)
            by_cases c8 : ((((((⟨#[112, 97, 116, 104, 32]⟩ : ByteArray) ++ a0_0) ++ (⟨#[10, 115, 117, 109, 32]⟩ : ByteArray)) ++ a0_1) ++ (⟨#[10, 115, 105, 122, 101, 32]⟩ : ByteArray)) ++ t157).size + 1 ≤ 9223372036854775807
            · rw [if_pos c8] at H
              have c8b0 := eq_true c8
              have c8b1 : decide (((((((⟨#[112, 97, 116, 104, 32]⟩ : ByteArray) ++ a0_0) ++ (⟨#[10, 115, 117, 109, 32]⟩ : ByteArray)) ++ a0_1) ++ (⟨#[10, 115, 105, 122, 101, 32]⟩ : ByteArray)) ++ t157).size + 1 ≤ 9223372036854775807) = true := decide_eq_true c8
              try have c8b2 : (9223372036854775807 < ((((((⟨#[112, 97, 116, 104, 32]⟩ : ByteArray) ++ a0_0) ++ (⟨#[10, 115, 117, 109, 32]⟩ : ByteArray)) ++ a0_1) ++ (⟨#[10, 115, 105, 122, 101, 32]⟩ : ByteArray)) ++ t157).size + 1) = False := eq_false (Nat.not_lt.2 c8)
              try (have c8b3 := Nat.not_lt.2 c8; simp only [ByteArray.size_append, ByteArray.size_mk', List.size_toArray, List.length_cons, List.length_nil, Nat.zero_add, Nat.reduceAdd] at c8b3; replace c8b3 := eq_false c8b3)
              have H' := Aside0.mk H
              clear H
              go_enter Tryd.func55, Tryd.ntmps55
              try go_wp2_with (first | ((with_reducible refine gate_dst (N := 1) rfl ?_); refine box_event ?hg (N := 1) ?hd (cs := #[.string a0_0, .string a0_1, .int .i64 a0_2, .slice A0_3 l0_3.length c0_3, .string a0_4, .int .u64 a0_5]) (t := 36) ?hr ?_; (case hd => rfl); (case hg => rfl); (case hr => first | (go_simp; done) | (go_simp; rfl)); intro gb156 hg w9 hbox hb; have n0_ := Aside0.mk (below_step (by repeat (first | (with_reducible first | exact HB.out | apply below_alloc | apply pw_below_drewN | apply below_drew1) | exact HB.out)) hb); have n1_ := Aside0.mk (hbox); have n2_ := Aside0.mk ((by rw [hg]; exact (below_size (by repeat (first | (with_reducible first | exact HB.out | apply below_alloc | apply pw_below_drewN | apply below_drew1) | exact HB.out))) : w.heap.size ≤ gb156)); have n3_ := Aside0.mk ((by rw [hg]; exact (below_size (by repeat (first | (with_reducible first | exact HB.out | apply below_alloc | apply pw_below_drewN | apply below_drew1) | exact HB.out))) : w.heap.size ≤ gb156)); clear HB; have HB := n0_; have BK156 := n1_; have GW156 := n2_; have GE156 := n3_; clear n0_ n1_ n2_ n3_; clear hb hbox hg))
              have n0_ := Aside0.mk (blk_drew BK156.out)
              have n1_ := Aside0.mk (below_drew1 HB.out)
              clear BK156
              clear HB
              have BK156 := n0_
              have HB := n1_
              clear n0_ n1_
              refine start_ (n := 14) (S := fun w' => w'.cell? ⟨gb156, 0, none⟩ = some (.string a0_0) ∧ w'.cell? ⟨gb156, 1, none⟩ = some (.string a0_1) ∧ w'.cell? ⟨gb156, 2, none⟩ = some (.int .i64 a0_2) ∧ w'.cell? ⟨gb156, 3, none⟩ = some (.slice A0_3 l0_3.length c0_3) ∧ w'.cell? ⟨gb156, 4, none⟩ = some (.string a0_4) ∧ w'.cell? ⟨gb156, 5, none⟩ = some (.int .u64 a0_5)) (ds := []) #[false, false, false, false, false, false, false, false, false, false, false, false, false, false] (by kernel_rfl) rfl rfl ⟨(blk_cell BK156.out 0).trans rfl, (blk_cell BK156.out 1).trans rfl, (blk_cell BK156.out 2).trans rfl, (blk_cell BK156.out 3).trans rfl, (blk_cell BK156.out 4).trans rfl, (blk_cell BK156.out 5).trans rfl⟩ (fun hHeld => ?_); refine with_tabW impl_manifestHead.tab1 impl_manifestHead.bits1 (fun HT_ HW_ => ?_)
              generalize w9.drew = w10 at BK156 HB hHeld ⊢
              refine pure_ (i := 0) (N := some 6) (v := ?_) (a' := ?_) #[true, false, false, false, false, false, false, false, false, false, false, false, false, false] rfl rfl (any_of HT_.out (by kernel_rfl)) (fun _ _ _ h => h) (Or.inl ⟨by rfl, ?_⟩) ?_ ?_
              rotate_left
              · intro w'
                go_simp
                with_reducible rfl
              rotate_left
              · simp only [Act.put, List.setIfInBounds_toArray, List.set_cons_zero, List.set_cons_succ, i64_w, i32_w]
                rfl
              refine pure_ (i := 4) (N := some 10) (v := ?_) (a' := ?_) #[true, false, false, false, true, false, false, false, false, false, false, false, false, false] rfl rfl (any_of HT_.out (by kernel_rfl)) (fun _ _ _ h => h) (Or.inl ⟨by rfl, ?_⟩) ?_ ?_
              rotate_left
              · intro w'
                go_simp
                with_reducible rfl
              rotate_left
              · simp only [Act.put, List.setIfInBounds_toArray, List.set_cons_zero, List.set_cons_succ, i64_w, i32_w]
                rfl
              refine pure_ (i := 8) (N := some 14) (v := ?_) (a' := ?_) #[true, false, false, false, true, false, false, false, true, false, false, false, false, false] rfl rfl (any_of HT_.out (by kernel_rfl)) (fun _ _ _ h => h) (Or.inl ⟨by rfl, ?_⟩) ?_ ?_
              rotate_left
              · intro w'
                go_simp
                with_reducible rfl
              rotate_left
              · simp only [Act.put, List.setIfInBounds_toArray, List.set_cons_zero, List.set_cons_succ, i64_w, i32_w]
                rfl
              refine take_ (i := 1) (N := some 7) (v := ?_) (a' := ?_) #[true, true, false, false, true, false, false, false, true, false, false, false, false, false] rfl rfl (take_ofW HT_.out HW_.out (by kernel_rfl)) (fun _ _ _ h => h) (Or.inl ⟨by rfl, ?_⟩) hHeld ?_ ?_
              rotate_left
              · rintro w' ⟨s0, s1, s2, s3, s4, s5⟩
                go_simp
                with_reducible rfl
              rotate_left
              · simp only [Act.put, List.setIfInBounds_toArray, List.set_cons_zero, List.set_cons_succ, i64_w, i32_w]
                rfl
              refine pure_ (i := 2) (N := some 8) (v := ?_) (a' := ?_) #[true, true, true, false, true, false, false, false, true, false, false, false, false, false] rfl rfl (any_of HT_.out (by kernel_rfl)) (fun _ _ _ h => h) (Or.inl ⟨by rfl, ?_⟩) ?_ ?_
              rotate_left
              · intro w'
                go_simp
                with_reducible rfl
              rotate_left
              · simp only [Act.put, List.setIfInBounds_toArray, List.set_cons_zero, List.set_cons_succ, i64_w, i32_w]
                rfl
              refine pure_ (i := 3) (N := some 9) (v := ?_) (a' := ?_) #[true, true, true, true, true, false, false, false, true, false, false, false, false, false] rfl rfl (any_of HT_.out (by kernel_rfl)) (fun _ _ _ h => h) (Or.inl ⟨by rfl, ?_⟩) ?_ ?_
              rotate_left
              · intro w'
                go_simp
                with_reducible rfl
              rotate_left
              · simp only [Act.put, List.setIfInBounds_toArray, List.set_cons_zero, List.set_cons_succ, i64_w, i32_w]
                rfl
              refine take_ (i := 5) (N := some 11) (v := ?_) (a' := ?_) #[true, true, true, true, true, true, false, false, true, false, false, false, false, false] rfl rfl (take_ofW HT_.out HW_.out (by kernel_rfl)) (fun _ _ _ h => h) (Or.inl ⟨by rfl, ?_⟩) hHeld ?_ ?_
              rotate_left
              · rintro w' ⟨s0, s1, s2, s3, s4, s5⟩
                go_simp
                with_reducible rfl
              rotate_left
              · simp only [Act.put, List.setIfInBounds_toArray, List.set_cons_zero, List.set_cons_succ, i64_w, i32_w]
                rfl
              refine pure_ (i := 6) (N := some 12) (v := ?_) (a' := ?_) #[true, true, true, true, true, true, true, false, true, false, false, false, false, false] rfl rfl (any_of HT_.out (by kernel_rfl)) (fun _ _ _ h => h) (Or.inl ⟨by rfl, ?_⟩) ?_ ?_
              rotate_left
              · intro w'
                go_simp
                with_reducible rfl
              rotate_left
              · simp only [Act.put, List.setIfInBounds_toArray, List.set_cons_zero, List.set_cons_succ, i64_w, i32_w]
                rfl
              refine pure_ (i := 7) (N := some 13) (v := ?_) (a' := ?_) #[true, true, true, true, true, true, true, true, true, false, false, false, false, false] rfl rfl (any_of HT_.out (by kernel_rfl)) (fun _ _ _ h => h) (Or.inl ⟨by rfl, ?_⟩) ?_ ?_
              rotate_left
              · intro w'
                go_simp
                with_reducible rfl
              rotate_left
              · simp only [Act.put, List.setIfInBounds_toArray, List.set_cons_zero, List.set_cons_succ, i64_w, i32_w]
                rfl
              refine take_ (i := 9) (N := some 15) (v := ?_) (a' := ?_) #[true, true, true, true, true, true, true, true, true, true, false, false, false, false] rfl rfl (take_ofW HT_.out HW_.out (by kernel_rfl)) (fun _ _ _ h => h) (Or.inl ⟨by rfl, ?_⟩) hHeld ?_ ?_
              rotate_left
              · rintro w' ⟨s0, s1, s2, s3, s4, s5⟩
                go_simp
                with_reducible rfl
              rotate_left
              · simp only [Act.put, List.setIfInBounds_toArray, List.set_cons_zero, List.set_cons_succ, i64_w, i32_w]
                rfl
              refine one_ (i := 10) (N := some 16) #[true, true, true, true, true, true, true, true, true, true, true, false, false, false] rfl rfl (one_of HT_.out (by kernel_rfl)) (by decide) (fun K hK => ?_)
              refine goes_ Tryd.func83 (by kernel_rfl) rfl #[.int .i64 a0_2, .int .i64 10] (by rfl) rfl rfl (by (try simp only [List.map_toArray, List.map_cons, List.map_nil]); first | done | rfl | (simp only [List.length_drop, List.length_take]; rfl)) ?_
              with_reducible refine (strconv_FormatInt.calls a0_2 10 t157 _ (tab_below HTT.out (by repeat (first | (with_reducible first | exact HB.out | apply below_alloc | apply pw_below_drewN | apply below_drew1 | refine below_set ?_ GE156.out) | exact HB.out))) A6.out).mono ?_
              rintro e w11 ⟨rfl, hb⟩
              refine ⟨_, rfl, ?_⟩
              have n0_ := Aside0.mk (blk_below (g := gb156) (o := .cells #[.string a0_0, .string a0_1, .int .i64 a0_2, .slice A0_3 l0_3.length c0_3, .string a0_4, .int .u64 a0_5] 36 (0, 0)) (by (with_reducible repeat (first | refine blk_drewN ?_ _ | refine blk_drew ?_ | refine blk_alloc ?_ _)); exact BK156.out) hb)
              have n1_ := Aside0.mk (below_step (by repeat (first | (with_reducible first | exact HB.out | apply below_alloc | apply pw_below_drewN | apply below_drew1 | refine below_set ?_ GE156.out) | exact HB.out)) hb)
              clear BK156
              clear HB
              have BK156 := n0_
              have HB := n1_
              clear n0_ n1_
              (try clear hb)
              (try clear hb2)
              (try clear hk)
              (try clear hi)
              refine hK.out _ _ ⟨(blk_cell BK156.out 0).trans rfl, (blk_cell BK156.out 1).trans rfl, (blk_cell BK156.out 2).trans rfl, (blk_cell BK156.out 3).trans rfl, (blk_cell BK156.out 4).trans rfl, (blk_cell BK156.out 5).trans rfl⟩ (fun hHeld => ?_)
              clear hK K
              refine norm_ (a' := ?_) ?_ ?_
              rotate_left
              · show Act.put _ (some 16) _ = _
                simp only [Act.put, List.setIfInBounds_toArray, List.set_cons_zero, List.set_cons_succ, i64_w, i32_w]
                rfl
              refine pure_ (i := 11) (N := some 17) (v := ?_) (a' := ?_) #[true, true, true, true, true, true, true, true, true, true, true, true, false, false] rfl rfl (any_of HT_.out (by kernel_rfl)) (fun _ _ _ h => h) (Or.inl ⟨by rfl, ?_⟩) ?_ ?_
              rotate_left
              · intro w'
                go_simp
                with_reducible rfl
              rotate_left
              · simp only [Act.put, List.setIfInBounds_toArray, List.set_cons_zero, List.set_cons_succ, i64_w, i32_w]
                rfl
              refine pure_ (i := 12) (N := some 18) (v := ?_) (a' := ?_) #[true, true, true, true, true, true, true, true, true, true, true, true, true, false] rfl rfl (any_of HT_.out (by kernel_rfl)) (fun _ _ _ h => h) (Or.inl ⟨by rfl, ?_⟩) ?_ ?_
              rotate_left
              · intro w'
                go_simp
                with_reducible rfl
              rotate_left
              · simp only [Act.put, List.setIfInBounds_toArray, List.set_cons_zero, List.set_cons_succ, i64_w, i32_w]
                rfl
              refine pure_ (i := 13) (N := some 3) (v := ?_) (a' := ?_) #[true, true, true, true, true, true, true, true, true, true, true, true, true, true] rfl rfl (any_of HT_.out (by kernel_rfl)) (fun _ _ _ h => h) (Or.inl ⟨by rfl, ?_⟩) ?_ ?_
              rotate_left
              · intro w'
                go_simp
                with_reducible rfl
              rotate_left
              · simp only [Act.put, List.setIfInBounds_toArray, List.set_cons_zero, List.set_cons_succ, i64_w, i32_w]
                rfl
              refine done_ (done_of HT_.out (by kernel_rfl)) ?_
              have hcz12_0 : w11.cell? ⟨gb156, 0, none⟩ = some (.string a0_0) := (blk_cell BK156.out 0).trans rfl
              have hcz12_1 : w11.cell? ⟨gb156, 1, none⟩ = some (.string a0_1) := (blk_cell BK156.out 1).trans rfl
              have hcz12_2 : w11.cell? ⟨gb156, 2, none⟩ = some (.int .i64 a0_2) := (blk_cell BK156.out 2).trans rfl
              have hcz12_3 : w11.cell? ⟨gb156, 3, none⟩ = some (.slice A0_3 l0_3.length c0_3) := (blk_cell BK156.out 3).trans rfl
              have hcz12_4 : w11.cell? ⟨gb156, 4, none⟩ = some (.string a0_4) := (blk_cell BK156.out 4).trans rfl
              have hcz12_5 : w11.cell? ⟨gb156, 5, none⟩ = some (.int .u64 a0_5) := (blk_cell BK156.out 5).trans rfl
              have hfz12_0 := blk_frozen BK156.out 0
              have hfz12_1 := blk_frozen BK156.out 1
              have hfz12_2 := blk_frozen BK156.out 2
              have hfz12_3 := blk_frozen BK156.out 3
              have hfz12_4 := blk_frozen BK156.out 4
              have hfz12_5 := blk_frozen BK156.out 5
              try go_wp2
              go_loopg [3, 22] k (fun kq v3 v22 w' => ∃ (x3_1 : ByteArray) (x22_1 : Int), v3 = .string x3_1 ∧ v22 = .int .i64 x22_1 ∧ Aside0 (impl_manifestHead.l0 kq x3_1 l0_3 (l0_3.length : Int) x22_1 = some r) ∧ Aside0 (kq ≤ k) ∧ Aside0 (w'.heap[gb156]? = some (.cells #[.string a0_0, .string a0_1, .int .i64 a0_2, (.slice A0_3 l0_3.length c0_3), .string a0_4, .int .u64 a0_5] 36 (0, 0))) ∧ Aside0 (Below w.heap.size w w'))
              case atStart => exact ⟨(((((((⟨#[112, 97, 116, 104, 32]⟩ : ByteArray) ++ a0_0) ++ (⟨#[10, 115, 117, 109, 32]⟩ : ByteArray)) ++ a0_1) ++ (⟨#[10, 115, 105, 122, 101, 32]⟩ : ByteArray)) ++ t157) ++ (⟨#[10]⟩ : ByteArray)), (0), (by first | rfl | (simp; done) | (simp [*]; done) | (simp; (generalize ByteArray.toList _ = q; cases q <;> rfl))), (by first | rfl | (simp; done) | (simp [*]; done) | (simp; (generalize ByteArray.toList _ = q; cases q <;> rfl))), H', ⟨Nat.le_refl _⟩, ⟨by (with_reducible repeat (first | refine blk_drewN ?_ _ | refine blk_drew ?_ | refine blk_alloc ?_ _)); exact BK156.out⟩, ⟨by repeat (first | (with_reducible first | exact HB.out | apply below_alloc | apply pw_below_drewN | apply below_drew1 | refine below_set ?_ GE156.out) | exact HB.out)⟩⟩
              case round =>
                clear H'
                try clear c2
                try clear c2b0
                try clear c2b1
                try clear c2b2
                try clear p2
                try clear c3
                try clear c3b0
                try clear c3b1
                try clear c3b2
                try clear c4
                try clear c4b0
                try clear c4b1
                try clear c4b2
                try clear c5
                try clear c5b0
                try clear c5b1
                try clear c5b2
                try clear c7
                try clear c7b0
                try clear c7b1
                try clear c7b2
                try clear c8
                try clear c8b0
                try clear c8b1
                try clear c8b2
                try clear hcz12_0
                try clear hcz12_1
                try clear hcz12_2
                try clear hcz12_3
                try clear hcz12_4
                try clear hcz12_5
                try clear hfz12_0
                try clear hfz12_1
                try clear hfz12_2
                try clear hfz12_3
                try clear hfz12_4
                try clear hfz12_5
                obtain ⟨x3_1, x22_1, rfl, rfl, HA, HK1, BK156, HB⟩ := hrel
                cases gk with
                | zero => exact absurd HA.out (by simp [impl_manifestHead.l0])
                | succ k1 =>
                  have H := HA.out
                  clear HA
                  simp only [impl_manifestHead.l0] at H
                  by_cases c13 : x22_1 < (l0_3.length : Int)
                  · rw [if_pos c13] at H
                    have c13b0 : decide (x22_1 < (l0_3.length : Int)) = true := decide_eq_true c13
                    clear c13
                    by_cases c14 : 0 ≤ x22_1
                    · rw [if_pos c14] at H
                      have c14b0 : decide (0 ≤ x22_1) = true := decide_eq_true c14
                      clear c14
                      by_cases c15 : x22_1 < (l0_3.length : Int)
                      · rw [if_pos c15] at H
                        have c15b0 : decide (x22_1 < (l0_3.length : Int)) = true := decide_eq_true c15
                        clear c15
                        by_cases c16 : 4 + (rdOf ByteArray.empty l0_3 x22_1).size ≤ 9223372036854775807
                        · rw [if_pos c16] at H
                          have c16b0 := eq_true c16
                          have c16b1 : decide (4 + (rdOf ByteArray.empty l0_3 x22_1).size ≤ 9223372036854775807) = true := decide_eq_true c16
                          try have c16b2 : (9223372036854775807 < 4 + (rdOf ByteArray.empty l0_3 x22_1).size) = False := eq_false (Nat.not_lt.2 c16)
                          try (have c16b3 := Nat.not_lt.2 c16; simp only [ByteArray.size_append, ByteArray.size_mk', List.size_toArray, List.length_cons, List.length_nil, Nat.zero_add, Nat.reduceAdd] at c16b3; replace c16b3 := eq_false c16b3)
                          by_cases c17 : ((⟨#[114, 101, 102, 32]⟩ : ByteArray) ++ (rdOf ByteArray.empty l0_3 x22_1)).size + 1 ≤ 9223372036854775807
                          · rw [if_pos c17] at H
                            have c17b0 := eq_true c17
                            have c17b1 : decide (((⟨#[114, 101, 102, 32]⟩ : ByteArray) ++ (rdOf ByteArray.empty l0_3 x22_1)).size + 1 ≤ 9223372036854775807) = true := decide_eq_true c17
                            try have c17b2 : (9223372036854775807 < ((⟨#[114, 101, 102, 32]⟩ : ByteArray) ++ (rdOf ByteArray.empty l0_3 x22_1)).size + 1) = False := eq_false (Nat.not_lt.2 c17)
                            try (have c17b3 := Nat.not_lt.2 c17; simp only [ByteArray.size_append, ByteArray.size_mk', List.size_toArray, List.length_cons, List.length_nil, Nat.zero_add, Nat.reduceAdd] at c17b3; replace c17b3 := eq_false c17b3)
                            by_cases c18 : x3_1.size + (((⟨#[114, 101, 102, 32]⟩ : ByteArray) ++ (rdOf ByteArray.empty l0_3 x22_1)) ++ (⟨#[10]⟩ : ByteArray)).size ≤ 9223372036854775807
                            · rw [if_pos c18] at H
                              have c18b0 := eq_true c18
                              have c18b1 : decide (x3_1.size + (((⟨#[114, 101, 102, 32]⟩ : ByteArray) ++ (rdOf ByteArray.empty l0_3 x22_1)) ++ (⟨#[10]⟩ : ByteArray)).size ≤ 9223372036854775807) = true := decide_eq_true c18
                              try have c18b2 : (9223372036854775807 < x3_1.size + (((⟨#[114, 101, 102, 32]⟩ : ByteArray) ++ (rdOf ByteArray.empty l0_3 x22_1)) ++ (⟨#[10]⟩ : ByteArray)).size) = False := eq_false (Nat.not_lt.2 c18)
                              try (have c18b3 := Nat.not_lt.2 c18; simp only [ByteArray.size_append, ByteArray.size_mk', List.size_toArray, List.length_cons, List.length_nil, Nat.zero_add, Nat.reduceAdd] at c18b3; replace c18b3 := eq_false c18b3)
                              have H' := Aside0.mk H
                              clear H
                              have p158 : 0 ≤ (x22_1 : Int) := of_decide_eq_true (by first | (with_reducible assumption) | assumption)
                              have q158 : x22_1 < (l0_3.length : Int) := of_decide_eq_true (by first | (with_reducible assumption) | assumption)
                              obtain ⟨ad158, e158, hx158_0⟩ := Kd.at_string HR0_3.out x22_1 p158 q158
                              cases e158
                              try (replace hx158_0 := (HB.out.cell (World.block_lt_of_cell? w _ hx158_0)).trans hx158_0)
                              replace p158 := eq_true p158
                              replace q158 := eq_true q158
                              go_wp2
                              go_roundg k1
                              case measure => have := HK1.out; omega
                              case rel => exact ⟨(x3_1 ++ (((⟨#[114, 101, 102, 32]⟩ : ByteArray) ++ (rdOf ByteArray.empty l0_3 x22_1)) ++ (⟨#[10]⟩ : ByteArray))), (wrap64 (x22_1 + 1)), (by first | rfl | (simp; done) | (simp [*]; done) | (simp; (generalize ByteArray.toList _ = q; cases q <;> rfl))), (by first | rfl | (simp; done) | (simp [*]; done) | (simp; (generalize ByteArray.toList _ = q; cases q <;> rfl))), H', ⟨by have := HK1.out; omega⟩, ⟨by (with_reducible repeat (first | refine blk_drewN ?_ _ | refine blk_drew ?_ | refine blk_alloc ?_ _)); exact BK156.out⟩, ⟨by repeat (first | (with_reducible first | exact HB.out | apply below_alloc | apply pw_below_drewN | apply below_drew1 | refine below_set ?_ GE156.out) | exact HB.out)⟩⟩
                            · rw [if_neg c18] at H
                              exact absurd H (by simp)
                          · rw [if_neg c17] at H
                            exact absurd H (by simp)
                        · rw [if_neg c16] at H
                          exact absurd H (by simp)
                      · rw [if_neg c15] at H
                        exact absurd H (by simp)
                    · rw [if_neg c14] at H
                      exact absurd H (by simp)
                  · rw [if_neg c13] at H
                    have c13b0 : decide (x22_1 < (l0_3.length : Int)) = false := decide_eq_false c13
                    clear c13
                    obtain rfl := Option.some.inj H
                    go_wp2
                    go_ret
                    exact ⟨by first | rfl | (simp [errW_none, errW_some] <;> rfl) | (simp [*, errW_none, errW_some] <;> rfl), by repeat (first | (with_reducible first | exact HB.out | apply below_alloc | apply pw_below_drewN | apply below_drew1 | refine below_set ?_ GE156.out) | exact HB.out)⟩
            · rw [if_neg c8] at H
              exact absurd H (by simp)
          · rw [if_neg c7] at H
            exact absurd H (by simp)
        · rw [if_neg c5] at H
          exact absurd H (by simp)
      · rw [if_neg c4] at H
        exact absurd H (by simp)
    · rw [if_neg c3] at H
      exact absurd H (by simp)
  · rw [if_neg c2] at H
    exact absurd H (by simp)

/-! ### impl_Word32: function 56 -/
def impl_Word32.l0 : Nat → Int → List Int → Int → Int → Option (ByteArray)
  | 0, _, _, _, _ => none
  | k + 1, x0, x3, x7, x8 => if x8 < x7 then (if 0 ≤ (wrap64 (5 * x8)) then (if 0 ≤ (Go.bits .and .u64 (shr .u64 x0 (wrap64 (5 * x8))) 31) then (if (Go.bits .and .u64 (shr .u64 x0 (wrap64 (5 * x8))) 31) < 32 then (if 0 ≤ (wrap64 (12 - x8)) then (if (wrap64 (12 - x8)) < (x3.length : Int) then (impl_Word32.l0 k x0 (x3.set ((wrap64 (12 - x8)) : Int).toNat (bt (⟨#[48, 49, 50, 51, 52, 53, 54, 55, 56, 57, 97, 98, 99, 100, 102, 103, 104, 105, 106, 107, 108, 109, 110, 112, 113, 114, 115, 118, 119, 120, 121, 122]⟩ : ByteArray) (Go.bits .and .u64 (shr .u64 x0 (wrap64 (5 * x8))) 31))) x7 (wrap64 (x8 + 1))) else (none)) else (none)) else (none)) else (none)) else (none)) else (some (strOfNums x3))
def impl_Word32.f (k : Nat) (a0 : Int) : Option (ByteArray) := if 13 ≤ 281474976710656 then ((some (List.replicate 13 0 : List Int)).bind fun y159 => (impl_Word32.l0 k a0 y159 (y159.length : Int) 0)) else (none)
theorem impl_Word32.mono_l : ∀ k, (∀ y0 y1 y2 y3, LeO (impl_Word32.l0 k y0 y1 y2 y3) (impl_Word32.l0 (k + 1) y0 y1 y2 y3))
  | 0 => fun _ _ _ _ r h => by simp [impl_Word32.l0] at h
  | k + 1 => by
    have ih0 := impl_Word32.mono_l k
    · intro y0 y1 y2 y3
      unfold impl_Word32.l0
      repeat' first
      | (with_reducible exact ih0 _ _ _ _)
      | (with_reducible exact LeO.refl _)
      | (with_reducible exact LeO.none _)
      | (with_reducible refine LeO.ite ?_ ?_)
      | (with_reducible refine LeO.bind ?_ (fun _ => ?_))
      | exact ih0 _ _ _ _
      | exact LeO.none _
      | refine LeO.ite ?_ ?_
      | refine LeO.bind ?_ (fun _ => ?_)
theorem impl_Word32.mono : ∀ a0 k, LeO (impl_Word32.f k a0) (impl_Word32.f (k + 1) a0) := by
  intro a0 k
  have ih0 := impl_Word32.mono_l k
  unfold impl_Word32.f
  repeat' first
      | (with_reducible exact ih0 _ _ _ _)
      | (with_reducible exact LeO.refl _)
      | (with_reducible exact LeO.none _)
      | (with_reducible refine LeO.ite ?_ ?_)
      | (with_reducible refine LeO.bind ?_ (fun _ => ?_))
      | exact ih0 _ _ _ _
      | exact LeO.none _
      | refine LeO.ite ?_ ?_
      | refine LeO.bind ?_ (fun _ => ?_)
set_option maxHeartbeats 8000000 in
set_option maxRecDepth 100000 in
theorem impl_Word32.calls (k : Nat) (a0 : Int) (r : ByteArray) (w : World) (h : impl_Word32.f k a0 = some r) :
    Calls Tryd.prog 56 #[.int .u64 a0] w fun e w' => e = .returned (.string r) ∧ Below w.heap.size w w' := by
  have HB := Aside0.mk (Below.refl w.heap.size w)
  have H : (if 13 ≤ 281474976710656 then ((some (List.replicate 13 0 : List Int)).bind fun y159 => (impl_Word32.l0 k a0 y159 (y159.length : Int) 0)) else (none)) = some r := h
  clear h
  by_cases c2 : 13 ≤ 281474976710656
  · rw [if_pos c2] at H
    have c2b0 := eq_true c2
    have c2b1 : decide (13 ≤ 281474976710656) = true := decide_eq_true c2
    clear c2
    obtain ⟨y159, hy159⟩ : ∃ y_ : List Int, y_ = (List.replicate 13 0) := ⟨_, rfl⟩
    replace H : (impl_Word32.l0 k a0 y159 (y159.length : Int) 0) = some r := by first | (rw [hy159]; with_reducible exact H) | (have H2_ := (Option.bind_some _ _).symm.trans H; rw [hy159]; with_reducible exact H2_) | (have H2_ := (Option.bind_some _ _).symm.trans H; with_reducible exact H2_) | with_reducible exact H | (rw [hy159]; exact H) | exact H
    have Ny159 := Aside0.mk hy159
    clear hy159
    have H' := Aside0.mk H
    clear H
    go_enter Tryd.func56, Tryd.ntmps56
    go_wp2_with (first | ((with_reducible refine gate_dst (N := 5) rfl ?_); refine Kd.R_make (Kd.int .u8) _ 5 rfl (N := 5) rfl 101 _ _ rfl 13 rfl rfl Tryd.underlying101 (.int .u8 0) 1 info5 rfl (by decide) (by omega) 0 (ok := fun _ => True) (okp := fun _ => True) rfl (fun _ hk => hk) trivial (by omega) (by omega) (Below.refl _ _) (Nat.le_refl _) ?_; intro v160 w3 ho4 hb hg_ hnew_; clear hg_ hnew_; (first | rw [← Ny159.out] at ho4 | (simp only [Int.reduceToNat] at ho4; rw [← Ny159.out] at ho4)); have n0_ := Aside0.mk (Kd.R_lower ho4 (below_size (by repeat (first | (with_reducible first | exact HB.out | apply below_alloc | apply pw_below_drewN | apply below_drew1) | exact HB.out)))); have n1_ := Aside0.mk (below_step (by repeat (first | (with_reducible first | exact HB.out | apply below_alloc | apply pw_below_drewN | apply below_drew1) | exact HB.out)) hb); clear HB; have HO161 := n0_; have HB := n1_; clear n0_ n1_; clear hb ho4; obtain ⟨Ao5, co5, eo5⟩ := Kd.R_slice HO161.out; subst eo5))
    go_loopg [8] k (fun kq v8 w' => ∃ (x3_1 : List Int) (x8_1 : Int), v8 = .int .i64 x8_1 ∧ Aside0 (impl_Word32.l0 kq a0 x3_1 (y159.length : Int) x8_1 = some r) ∧ Aside0 (kq ≤ k) ∧ Aside0 (Kd.R (Kd.int .u8) 5 w' w.heap.size (fun _ => True) (.slice Ao5 y159.length co5) x3_1) ∧ Aside0 (Below w.heap.size w w'))
    case atStart => exact ⟨(y159), (0), (by first | rfl | (simp; done) | (simp [*]; done) | (simp; (generalize ByteArray.toList _ = q; cases q <;> rfl))), H', ⟨Nat.le_refl _⟩, ⟨by (with_reducible repeat (first | apply Kd.R_alloc | apply Kd.R_drewN | apply Kd.R_drew)); exact HO161.out⟩, ⟨by repeat (first | (with_reducible first | exact HB.out | apply below_alloc | apply pw_below_drewN | apply below_drew1) | exact HB.out)⟩⟩
    case round =>
      clear H'
      try clear c2
      try clear c2b0
      try clear c2b1
      try clear p2
      try clear c5
      obtain ⟨x3_1, x8_1, rfl, HA, HK1, HO_3, HB⟩ := hrel
      have hl3_1 := (Kd.R_reads' HO_3.out).1
      rw [hl3_1] at HO_3
      (try simp only [hl3_1])
      cases gk with
      | zero => exact absurd HA.out (by simp [impl_Word32.l0])
      | succ k1 =>
        have H := HA.out
        clear HA
        simp only [impl_Word32.l0] at H
        by_cases c6 : x8_1 < (y159.length : Int)
        · rw [if_pos c6] at H
          have c6b0 : decide (x8_1 < (y159.length : Int)) = true := decide_eq_true c6
          clear c6
          obtain ⟨ji7, hji7⟩ : ∃ j_ : Int, (wrap64 (5 * x8_1)) = j_ := ⟨_, rfl⟩
          replace H : (if 0 ≤ (ji7) then (if 0 ≤ (Go.bits .and .u64 (shr .u64 a0 (ji7)) 31) then (if (Go.bits .and .u64 (shr .u64 a0 (ji7)) 31) < 32 then (if 0 ≤ (wrap64 (12 - x8_1)) then (if (wrap64 (12 - x8_1)) < (x3_1.length : Int) then (impl_Word32.l0 k1 a0 (x3_1.set ((wrap64 (12 - x8_1)) : Int).toNat (bt (⟨#[48, 49, 50, 51, 52, 53, 54, 55, 56, 57, 97, 98, 99, 100, 102, 103, 104, 105, 106, 107, 108, 109, 110, 112, 113, 114, 115, 118, 119, 120, 121, 122]⟩ : ByteArray) (Go.bits .and .u64 (shr .u64 a0 (ji7)) 31))) (y159.length : Int) (wrap64 (x8_1 + 1))) else (none)) else (none)) else (none)) else (none)) else (none)) = some r := by first | (rw [hji7] at H; exact H) | (simp only [hji7] at H ⊢; exact H)
          have hji7w : (IntKind.i64.wrap (5 * x8_1)) = ji7 := (i64_w _).trans hji7
          by_cases c8 : 0 ≤ (ji7)
          · rw [if_pos c8] at H
            have c8b0 := eq_true c8
            have c8b1 : decide (0 ≤ (ji7)) = true := decide_eq_true c8
            clear c8
            obtain ⟨ji9, hji9⟩ : ∃ j_ : Int, (shr .u64 a0 (ji7)) = j_ := ⟨_, rfl⟩
            replace H : (if 0 ≤ (Go.bits .and .u64 (ji9) 31) then (if (Go.bits .and .u64 (ji9) 31) < 32 then (if 0 ≤ (wrap64 (12 - x8_1)) then (if (wrap64 (12 - x8_1)) < (x3_1.length : Int) then (impl_Word32.l0 k1 a0 (x3_1.set ((wrap64 (12 - x8_1)) : Int).toNat (bt (⟨#[48, 49, 50, 51, 52, 53, 54, 55, 56, 57, 97, 98, 99, 100, 102, 103, 104, 105, 106, 107, 108, 109, 110, 112, 113, 114, 115, 118, 119, 120, 121, 122]⟩ : ByteArray) (Go.bits .and .u64 (ji9) 31))) (y159.length : Int) (wrap64 (x8_1 + 1))) else (none)) else (none)) else (none)) else (none)) = some r := by first | (rw [hji9] at H; exact H) | (simp only [hji9] at H ⊢; exact H)
            have hji9_ : (a0 / 2 ^ min (ji7).toNat 64) = ji9 := hji9
            have hji9z : (ji7) ≤ 64 → (a0 / 2 ^ (ji7).toNat) = ji9 := shr_small hji9
            by_cases c10 : 0 ≤ (Go.bits .and .u64 (ji9) 31)
            · rw [if_pos c10] at H
              have c10b0 : decide (0 ≤ (Go.bits .and .u64 (ji9) 31)) = true := decide_eq_true c10
              clear c10
              by_cases c11 : (Go.bits .and .u64 (ji9) 31) < 32
              · rw [if_pos c11] at H
                have c11b0 : decide ((Go.bits .and .u64 (ji9) 31) < 32) = true := decide_eq_true c11
                clear c11
                obtain ⟨ji13, hji13⟩ : ∃ j_ : Int, (wrap64 (12 - x8_1)) = j_ := ⟨_, rfl⟩
                replace H : (if 0 ≤ (ji13) then (if (ji13) < (x3_1.length : Int) then (impl_Word32.l0 k1 a0 (x3_1.set ((ji13) : Int).toNat (bt (⟨#[48, 49, 50, 51, 52, 53, 54, 55, 56, 57, 97, 98, 99, 100, 102, 103, 104, 105, 106, 107, 108, 109, 110, 112, 113, 114, 115, 118, 119, 120, 121, 122]⟩ : ByteArray) (Go.bits .and .u64 (ji9) 31))) (y159.length : Int) (wrap64 (x8_1 + 1))) else (none)) else (none)) = some r := by first | (rw [hji13] at H; exact H) | (simp only [hji13] at H ⊢; exact H)
                have hji13w : (IntKind.i64.wrap (12 - x8_1)) = ji13 := (i64_w _).trans hji13
                by_cases c14 : 0 ≤ (ji13)
                · rw [if_pos c14] at H
                  have c14b0 : decide (0 ≤ (ji13)) = true := decide_eq_true c14
                  clear c14
                  by_cases c15 : (ji13) < (x3_1.length : Int)
                  · rw [if_pos c15] at H
                    have c15b0 : decide ((ji13) < (x3_1.length : Int)) = true := decide_eq_true c15
                    clear c15
                    obtain ⟨y162, hy162⟩ : ∃ y_ : List Int, y_ = (x3_1.set ((ji13) : Int).toNat (bt (⟨#[48, 49, 50, 51, 52, 53, 54, 55, 56, 57, 97, 98, 99, 100, 102, 103, 104, 105, 106, 107, 108, 109, 110, 112, 113, 114, 115, 118, 119, 120, 121, 122]⟩ : ByteArray) (Go.bits .and .u64 (ji9) 31))) := ⟨_, rfl⟩
                    replace H : (impl_Word32.l0 k1 a0 y162 (y159.length : Int) (wrap64 (x8_1 + 1))) = some r := by first | (rw [hy162]; with_reducible exact H) | (have H2_ := (Option.bind_some _ _).symm.trans H; rw [hy162]; with_reducible exact H2_) | (have H2_ := (Option.bind_some _ _).symm.trans H; with_reducible exact H2_) | with_reducible exact H | (rw [hy162]; exact H) | exact H
                    have Ny162 := Aside0.mk hy162
                    clear hy162
                    have H' := Aside0.mk H
                    clear H
                    have p12 : 0 ≤ ((Go.bits .and .u64 (ji9) 31) : Int) := of_decide_eq_true (by first | (with_reducible assumption) | assumption)
                    have q12 : (Go.bits .and .u64 (ji9) 31) < (32 : Int) := of_decide_eq_true (by first | (with_reducible assumption) | assumption)
                    have hx12 := bt_at (⟨#[48, 49, 50, 51, 52, 53, 54, 55, 56, 57, 97, 98, 99, 100, 102, 103, 104, 105, 106, 107, 108, 109, 110, 112, 113, 114, 115, 118, 119, 120, 121, 122]⟩ : ByteArray) (Go.bits .and .u64 (ji9) 31)
                    replace p12 := eq_true p12
                    replace q12 := eq_true q12
                    have p16 : 0 ≤ ((ji13) : Int) := of_decide_eq_true (by first | (with_reducible assumption) | assumption)
                    have q16 : ((ji13) : Int) < ((x3_1.length : Int) : Int) := of_decide_eq_true (by first | (with_reducible assumption) | assumption)
                    have cx_ : decide (x8_1 < (x3_1.length : Int)) = true := by rw [← hl3_1]; assumption
                    obtain ⟨go16, co16, eo16, gb16, gl16, cl16, HG16⟩ := Kd.R_form HO_3.out (by omega)
                    (first | cases eo16 | (injection eo16 with ea_ en_ ec_; (first | subst ea_ | (injection ea_ with ea_; subst ea_)); subst ec_; clear en_))
                    have GB16 := Aside0.mk gb16
                    have GG16 := Aside0.mk HG16
                    clear gb16 gl16 HG16
                    obtain ⟨hx16_0, hf16_0⟩ := Kd.R_celln 0 HO_3.out ((ji13) : Int) p16 q16
                    replace p16 := eq_true p16
                    replace q16 := eq_true q16
                    have HP17 := Kd.R_putg HO_3.out ((ji13) : Int) (bt (⟨#[48, 49, 50, 51, 52, 53, 54, 55, 56, 57, 97, 98, 99, 100, 102, 103, 104, 105, 106, 107, 108, 109, 110, 112, 113, 114, 115, 118, 119, 120, 121, 122]⟩ : ByteArray) (Go.bits .and .u64 (ji9) 31))
                    go_wp2_with (first | ((with_reducible refine gate_store (t := 5) (p := 20) rfl ?_); refine store_event (t := 5) (p := 20) (v := ?vo_w18) (w1 := (wr.setCell ⟨go16, ((ji13) : Int).toNat, none⟩ (.int .u8 (bt (⟨#[48, 49, 50, 51, 52, 53, 54, 55, 56, 57, 97, 98, 99, 100, 102, 103, 104, 105, 106, 107, 108, 109, 110, 112, 113, 114, 115, 118, 119, 120, 121, 122]⟩ : ByteArray) (Go.bits .and .u64 (ji9) 31))))) ?hg ?ho ?hn ?hr ?_; (case ho => rfl); (case hg => rfl); (case hn => rfl); (case hr => first | (go_simp; done) | (go_simp; rfl)); intro w18 hw; have hg : wr.grownBy w18 (some go16) := (by rw [hw]; exact HP17.2); have hp_ : Kd.R (Kd.int .u8) 5 w18 w.heap.size (fun _ => True) (.slice (some ⟨go16, 0, none⟩) x3_1.length co5) y162 := (by rw [hw, Ny162.out]; exact HP17.1); clear HP17; have n0_ := Aside0.mk (hp_); have n1_ := Aside0.mk ((by rw [hw]; exact below_set (HB.out) GB16.out : Below w.heap.size w w18)); clear HO_3; clear HB; have HO_3 := n0_; have HB := n1_; clear n0_ n1_; clear hg hw hp_))
                    (try simp only [← hl3_1])
                    go_roundg k1
                    case measure => have := HK1.out; omega
                    case rel => exact ⟨(y162), (wrap64 (x8_1 + 1)), (by first | rfl | (simp; done) | (simp [*]; done) | (simp; (generalize ByteArray.toList _ = q; cases q <;> rfl))), (by first | exact H' | (rw [hji7]; exact H') | (rw [hji13]; exact H')), ⟨by have := HK1.out; omega⟩, ⟨by (try simp only [hl3_1]); (with_reducible repeat (first | apply Kd.R_alloc | apply Kd.R_drewN | apply Kd.R_drew)); exact HO_3.out⟩, ⟨by repeat (first | (with_reducible first | exact HB.out | apply below_alloc | apply pw_below_drewN | apply below_drew1) | exact HB.out)⟩⟩
                  · rw [if_neg c15] at H
                    exact absurd H (by simp)
                · rw [if_neg c14] at H
                  exact absurd H (by simp)
              · rw [if_neg c11] at H
                exact absurd H (by simp)
            · rw [if_neg c10] at H
              exact absurd H (by simp)
          · rw [if_neg c8] at H
            exact absurd H (by simp)
        · rw [if_neg c6] at H
          have c6b0 : decide (x8_1 < (y159.length : Int)) = false := decide_eq_false c6
          clear c6
          have cx_ : decide (x8_1 < (x3_1.length : Int)) = false := by rw [← hl3_1]; assumption
          obtain rfl := Option.some.inj H
          have hcv19 := own_string (P := Tryd.prog) Tryd.underlying101 Tryd.underlying5 Tryd.underlying9 (Kd.own_of_R HO_3.out)
          go_wp2
          go_ret
          exact ⟨by first | rfl | (simp [errW_none, errW_some] <;> rfl) | (simp [*, errW_none, errW_some] <;> rfl), by repeat (first | (with_reducible first | exact HB.out | apply below_alloc | apply pw_below_drewN | apply below_drew1) | exact HB.out)⟩
  · rw [if_neg c2] at H
    exact absurd H (by simp)

end Go.Proofs.YtklinldidfdnjaaDoor.PFnExactManifestText
