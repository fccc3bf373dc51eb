-- Laid by a program of this session: a turned copy of the kit's print, with contracts by hand beside.
import Derived.Test.YtklinldidfdnjaaDoorPFnExactReadKeyx0
import Derived.Test.YtklinldidfdnjaaDoorPFnExactReadKeyx2
namespace Go.Proofs.YtklinldidfdnjaaDoor.PFnExactReadKey
open Go.RowKit Go.Proofs.YtklinldidfdnjaaDoorW.PrintWords Go.Proofs.YtklinldidfdnjaaDoorW.PrintLast Go.Proofs.YtklinldidfdnjaaDoorW.PrintMore
attribute [local go_sem] max2_int min2_int max_two min_two max_three min_three max_four min_four   -- for this text's walks alone
set_option linter.unusedVariables false
set_option linter.unusedSimpArgs false

/-! ### strings_Split: function 33 -/
def strings_Split.f (a0 a1 : ByteArray) : Option (List ByteArray) := if a1.size = 1 ∧ a0.size ≤ 2000000000 then some (Lib.splitB a1 0 (Lib.countB a0 a1) a0) else none
theorem split_gen (s : ByteArray) (c : UInt8) (hs : s.size ≤ 2000000000) (w : World) :
    Calls Tryd.prog 71 #[.string s, .string ⟨#[c]⟩, .int .i64 0, .int .i64 (-1)] w fun e w' =>
      e = .returned (.slice (some ⟨w.heap.size, 0, none⟩) (Lib.splitB ⟨#[c]⟩ 0 (Lib.countB s ⟨#[c]⟩) s).length (Lib.countB s ⟨#[c]⟩ + 1)) ∧ w' = w.alloc (.cells ((Lib.splitB ⟨#[c]⟩ 0 (Lib.countB s ⟨#[c]⟩) s).map Value.string).toArray 9) ∧ (Lib.splitB ⟨#[c]⟩ 0 (Lib.countB s ⟨#[c]⟩) s).length = Lib.countB s ⟨#[c]⟩ + 1 := by
  have L := Tryd.lays146
  have h1 : 1 ≤ (⟨#[c]⟩ : ByteArray).size := by show 1 ≤ (#[c] : Array UInt8).size; simp
  have hle := Lib.countB_le ⟨#[c]⟩ h1 s.size s (Nat.le_refl _)
  have hlen := Lib.splitB_all ⟨#[c]⟩ h1 0 _ s rfl
  have hI : ∀ (x : ByteArray) (d : Array Value), x.size ≤ s.size → Calls Tryd.prog (Tryd.lays146_ren.f 143) #[.string x, .string ⟨#[c]⟩] (w.alloc (.cells d (Tryd.lays146_ren.t 9))) fun e w' => e = .returned (.int .i64 (Lib.indexB x ⟨#[c]⟩)) ∧ w' = w.alloc (.cells d (Tryd.lays146_ren.t 9)) := fun x d _ => by
    refine (Any.strings_Index_one { L with } x c _).mono fun e w' ⟨he, hw⟩ => ⟨?_, hw⟩
    rw [he]
    show _ = Ending.returned (Value.int .i64 (Lib.index x.data.toList [c]))
    rw [Lib.index_one]
  have hC : Calls Tryd.prog (Tryd.lays146_ren.f 138) #[.string s, .string ⟨#[c]⟩] w fun e w' => e = .returned (.int .i64 (Lib.countB s ⟨#[c]⟩)) ∧ w' = w := by
    refine (Any.strings_Count_one { L with } s c w).mono fun e w' ⟨he, hw⟩ => ⟨?_, hw⟩
    rw [he]
    show _ = Ending.returned (Value.int .i64 ((Lib.count s.data.toList [c] : Nat) : Int))
    rw [Lib.count_one]
    rfl
  have c1 := Any.strings_genSplit_core { L with } (by kernel_rfl) s ⟨#[c]⟩ 0 (-1) (Lib.countB s ⟨#[c]⟩ + 1) w (by omega) h1 (Nat.zero_le _) hI hC (by decide) (by decide) (by rw [if_pos (by decide)]; omega)
  rw [Nat.add_sub_cancel] at c1
  have e2 : Lib.cellsOf (Lib.splitB ⟨#[c]⟩ 0 (Lib.countB s ⟨#[c]⟩) s) (Lib.countB s ⟨#[c]⟩ + 1) = ((Lib.splitB ⟨#[c]⟩ 0 (Lib.countB s ⟨#[c]⟩) s).map Value.string).toArray := by rw [← hlen]; exact Lib.cellsOf_full _
  rw [e2] at c1
  exact c1.mono fun e w' ⟨he, hw⟩ => ⟨he, hw, hlen⟩
set_option maxHeartbeats 2000000 in
set_option maxRecDepth 100000 in
theorem strings_Split.calls (a0 a1 : ByteArray) (r : List ByteArray) (w : World) (h : strings_Split.f a0 a1 = some r) :
    Calls Tryd.prog 33 #[.string a0, .string a1] w fun e w' => ∃ v0_ : Value, e = .returned (v0_) ∧ Kd.R Kd.string 9 w' w.heap.size (fun _ => True) v0_ r ∧ Below w.heap.size w w' := by
  unfold strings_Split.f at h
  by_cases c : a1.size = 1 ∧ a0.size ≤ 2000000000
  · rw [if_pos c] at h
    obtain ⟨b, rfl⟩ := Lib.one_byte a1 c.1
    obtain ⟨p, hp⟩ : ∃ p, Lib.splitB (⟨#[b]⟩ : ByteArray) 0 (Lib.countB a0 ⟨#[b]⟩) a0 = p := ⟨_, rfl⟩
    have G := split_gen a0 b c.2 w
    rw [hp] at h G
    obtain rfl := Option.some.inj h
    clear h hp
    obtain ⟨m, hm⟩ : ∃ m, Lib.countB a0 (⟨#[b]⟩ : ByteArray) = m := ⟨_, rfl⟩
    rw [hm] at G
    have hle : m ≤ 2000000000 := by
      rw [← hm]
      exact Nat.le_trans (Lib.countB_le (⟨#[b]⟩ : ByteArray) (by show 1 ≤ (#[b] : Array UInt8).size; simp) a0.size a0 (Nat.le_refl _)) c.2
    clear hm c
    go_enter Tryd.func33, Tryd.ntmps33
    go_wp2_with (first | (go_at_call 71; refine G.mono ?_; rintro e w' ⟨rfl, hw, hl⟩; subst hw) | go_in)
    go_ret
    have ho := World.ownsRow_lit (base := w.heap.size) (e := 9) (size := 1) w (p.map Value.string).toArray p.length (Nat.le_refl _) (by unfold maxLen; omega) (by simp)
    rw [hl] at ho
    refine ⟨_, rfl, Kd.R_of_own (enc := Value.string) (h1 := fun _ => rfl) (xs := p) (by rw [hl]; simpa [encs] using ho) (fun _ _ => trivial), (Below.refl _ _).alloc (Nat.le_refl _) _⟩
  · rw [if_neg c] at h
    exact absurd h (by simp)

/-! ### impl_letter: function 72 -/
def impl_letter.f (a0 : Int) : Option (Bool) := if a0 ≥ 97 then (if a0 ≤ 122 then (some true) else (if a0 ≥ 65 then (some (decide (a0 ≤ 90))) else (some false))) else (if a0 ≥ 65 then (some (decide (a0 ≤ 90))) else (some false))
set_option maxHeartbeats 8000000 in
set_option maxRecDepth 100000 in
theorem impl_letter.calls (a0 : Int) (r : Bool) (w : World) (h : impl_letter.f a0 = some r) :
    Calls Tryd.prog 72 #[.int .u8 a0] w fun e w' => e = .returned (.bool r) ∧ Drawn0 w w' := by
  have H : (if a0 ≥ 97 then (if a0 ≤ 122 then (some true) else (if a0 ≥ 65 then (some (decide (a0 ≤ 90))) else (some false))) else (if a0 ≥ 65 then (some (decide (a0 ≤ 90))) else (some false))) = some r := h
  clear h
  by_cases c2 : a0 ≥ 97
  · rw [if_pos c2] at H
    have c2b0 : decide (97 ≤ a0) = true := decide_eq_true c2
    clear c2
    by_cases c3 : a0 ≤ 122
    · rw [if_pos c3] at H
      have c3b0 : decide (a0 ≤ 122) = true := decide_eq_true c3
      clear c3
      obtain rfl := Option.some.inj H
      go_enter Tryd.func72, Tryd.ntmps72
      go_wp2
      go_ret
      exact ⟨by first | rfl | (simp; done) | (simp [*]; done), by repeat (first | exact Drawn0.refl _ | apply Drawn0.step)⟩
    · rw [if_neg c3] at H
      have c3b0 : decide (a0 ≤ 122) = false := decide_eq_false c3
      clear c3
      by_cases c4 : a0 ≥ 65
      · rw [if_pos c4] at H
        have c4b0 : decide (65 ≤ a0) = true := decide_eq_true c4
        clear c4
        obtain rfl := Option.some.inj H
        go_enter Tryd.func72, Tryd.ntmps72
        go_wp2
        go_ret
        exact ⟨by first | rfl | (simp; done) | (simp [*]; done), by repeat (first | exact Drawn0.refl _ | apply Drawn0.step)⟩
      · rw [if_neg c4] at H
        have c4b0 : decide (65 ≤ a0) = false := decide_eq_false c4
        clear c4
        obtain rfl := Option.some.inj H
        go_enter Tryd.func72, Tryd.ntmps72
        go_wp2
        go_ret
        exact ⟨by first | rfl | (simp; done) | (simp [*]; done), by repeat (first | exact Drawn0.refl _ | apply Drawn0.step)⟩
  · rw [if_neg c2] at H
    have c2b0 : decide (97 ≤ a0) = false := decide_eq_false c2
    clear c2
    by_cases c5 : a0 ≥ 65
    · rw [if_pos c5] at H
      have c5b0 : decide (65 ≤ a0) = true := decide_eq_true c5
      clear c5
      obtain rfl := Option.some.inj H
      go_enter Tryd.func72, Tryd.ntmps72
      go_wp2
      go_ret
      exact ⟨by first | rfl | (simp; done) | (simp [*]; done), by repeat (first | exact Drawn0.refl _ | apply Drawn0.step)⟩
    · rw [if_neg c5] at H
      have c5b0 : decide (65 ≤ a0) = false := decide_eq_false c5
      clear c5
      obtain rfl := Option.some.inj H
      go_enter Tryd.func72, Tryd.ntmps72
      go_wp2
      go_ret
      exact ⟨by first | rfl | (simp; done) | (simp [*]; done), by repeat (first | exact Drawn0.refl _ | apply Drawn0.step)⟩

/-! ### impl_digit: function 73 -/
def impl_digit.f (a0 : Int) : Option (Bool) := if a0 ≥ 48 then (some (decide (a0 ≤ 57))) else (some false)
set_option maxHeartbeats 8000000 in
set_option maxRecDepth 100000 in
theorem impl_digit.calls (a0 : Int) (r : Bool) (w : World) (h : impl_digit.f a0 = some r) :
    Calls Tryd.prog 73 #[.int .u8 a0] w fun e w' => e = .returned (.bool r) ∧ Drawn0 w w' := by
  have H : (if a0 ≥ 48 then (some (decide (a0 ≤ 57))) else (some false)) = some r := h
  clear h
  by_cases c2 : a0 ≥ 48
  · rw [if_pos c2] at H
    have c2b0 : decide (48 ≤ a0) = true := decide_eq_true c2
    clear c2
    obtain rfl := Option.some.inj H
    go_enter Tryd.func73, Tryd.ntmps73
    go_wp2
    go_ret
    exact ⟨by first | rfl | (simp; done) | (simp [*]; done), by repeat (first | exact Drawn0.refl _ | apply Drawn0.step)⟩
  · rw [if_neg c2] at H
    have c2b0 : decide (48 ≤ a0) = false := decide_eq_false c2
    clear c2
    obtain rfl := Option.some.inj H
    go_enter Tryd.func73, Tryd.ntmps73
    go_wp2
    go_ret
    exact ⟨by first | rfl | (simp; done) | (simp [*]; done), by repeat (first | exact Drawn0.refl _ | apply Drawn0.step)⟩

/-! ### strings_IndexByte: function 75 -/
set_option maxRecDepth 100000 in
set_option maxHeartbeats 2000000 in
theorem stringslite_IndexByte_calls (s : ByteArray) (c : Int) (w : World) :
    Calls Tryd.prog 92 #[.string s, .int .u8 c] w fun e w' => e = .returned (.int .i64 (Lib.indexByte s.data.toList c.toNat.toUInt8)) ∧ w' = w := by
  go_enter Tryd.func92, Tryd.ntmps92
  go_wp2
  rw [run_callFunc_extern Tryd.func106 (by kernel_rfl) (by kernel_rfl) (by kernel_rfl) (e := Extern.BytealgIndexByte.indexByte) (by kernel_rfl), Lib.run_indexByteString]
  simp only [Result.andThen]
  rw [Oper.upon_value]
  go_wp2
  go_ret
  exact ⟨rfl, rfl⟩
def strings_IndexByte.f (a0 : ByteArray) (a1 : Int) : Option (Int) := some (Lib.indexByte a0.data.toList a1.toNat.toUInt8)
set_option maxRecDepth 100000 in
set_option maxHeartbeats 2000000 in
theorem strings_IndexByte.calls (a0 : ByteArray) (a1 : Int) (r : Int) (w : World) (h : strings_IndexByte.f a0 a1 = some r) :
    Calls Tryd.prog 75 #[.string a0, .int .u8 a1] w fun e w' => e = .returned (.int .i64 r) ∧ Drawn0 w w' := by
  obtain rfl : Lib.indexByte a0.data.toList a1.toNat.toUInt8 = r := by simpa [strings_IndexByte.f] using h
  clear h
  go_enter Tryd.func75, Tryd.ntmps75
  go_wp2_with (go_at_call 92; refine (stringslite_IndexByte_calls _ _ _).mono ?_; rintro e w' ⟨rfl, rfl⟩)
  go_ret
  exact ⟨rfl, Drawn0.refl _⟩

/-! ### strings_ContainsRune: function 74 -/
set_option maxRecDepth 100000 in
set_option maxHeartbeats 2000000 in
theorem cr_stringslite_calls (s : ByteArray) (c : Int) (w : World) :
    Calls Tryd.prog 92 #[.string s, .int .u8 c] w fun e w' => e = .returned (.int .i64 (Lib.indexByte s.data.toList c.toNat.toUInt8)) ∧ w' = w := by
  go_enter Tryd.func92, Tryd.ntmps92
  go_wp2
  rw [run_callFunc_extern Tryd.func106 (by kernel_rfl) (by kernel_rfl) (by kernel_rfl) (e := Extern.BytealgIndexByte.indexByte) (by kernel_rfl), Lib.run_indexByteString]
  simp only [Result.andThen]
  rw [Oper.upon_value]
  go_wp2
  go_ret
  exact ⟨rfl, rfl⟩
set_option maxRecDepth 100000 in
set_option maxHeartbeats 2000000 in
theorem cr_IndexByte_calls (s : ByteArray) (c : Int) (w : World) :
    Calls Tryd.prog 75 #[.string s, .int .u8 c] w fun e w' => e = .returned (.int .i64 (Lib.indexByte s.data.toList c.toNat.toUInt8)) ∧ w' = w := by
  go_enter Tryd.func75, Tryd.ntmps75
  go_wp2_with (go_at_call 92; refine (cr_stringslite_calls _ _ _).mono ?_; rintro e w' ⟨rfl, rfl⟩)
  go_ret
  exact ⟨rfl, rfl⟩
set_option maxRecDepth 100000 in
set_option maxHeartbeats 2000000 in
theorem cr_ascii (s : ByteArray) (c : Int) (w : World) (h0 : 0 ≤ c) (h1 : c < 128) :
    Calls Tryd.prog 91 #[.string s, .int .i32 c] w fun e w' => e = .returned (.int .i64 (Lib.indexByte s.data.toList c.toNat.toUInt8)) ∧ w' = w := by
  have hw : IntKind.u8.wrap c = c := by rw [IntKind.wrap_u8]; omega
  go_enter Tryd.func91, Tryd.ntmps91
  go_wp2_with (go_at_call 75; refine (cr_IndexByte_calls _ _ _).mono ?_; rintro e w' ⟨rfl, rfl⟩)
  go_ret
  exact ⟨rfl, rfl⟩
set_option maxRecDepth 100000 in
set_option maxHeartbeats 2000000 in
theorem cr_high (c : Int) (w : World) (h0 : 128 ≤ c) (h1 : c < 256) :
    Calls Tryd.prog 91 #[.string ⟨#[45, 95, 46, 43]⟩, .int .i32 c] w fun e w' => e = .returned (.int .i64 (-1)) ∧ ∃ n, w' = w.drewN n := by
  obtain ⟨rs, hrs⟩ : ∃ rs, rs = Utf8.encode c := ⟨_, rfl⟩
  have hv : Utf8.valid c = true := by rw [validRune_eq]; simp [validRune]; omega
  obtain ⟨g1, g2, g3⟩ := encode_facts c hv h0
  rw [← hrs] at g1 g2 g3
  have hz : rs.size = 2 := by
    rw [hrs]; unfold Utf8.encode
    have hc : ¬ c.toNat < 128 := by omega
    have hc2 : c.toNat < 2048 := by omega
    simp only [hv, if_true, hc, if_false, hc2]
    rfl
  have hlt : 1 < rs.size := by omega
  have g4 : 128 ≤ (rs[1]'hlt).toNat := by have := g3 (by omega); simpa [hz] using this
  go_enter Tryd.func91, Tryd.ntmps91
  have q1 : (c == 65533) = false := by simp; omega
  have q2 : c < 55296 := by omega
  have q3 : 0 ≤ c := by omega
  have q4 : ¬ c < 128 := by omega
  clear hv g1 g2 g3
  have HE : Utf8.encode c = rs := hrs.symm
  clear hrs
  go_wp2_with go_in
  go_step3
  go_wp2_with fail
  refine wp_loop_rounds 1 ?_
  rw [rounds_succ]
  go_wp2_with fail
  go_step3
  go_wp2_with fail
  have q6 : ((((⟨#[45, 95, 46, 43]⟩ : ByteArray)[1]'(by decide)).toNat : Int) != ((rs[1]'hlt).toNat : Int)) = true := by
    have : ((⟨#[45, 95, 46, 43]⟩ : ByteArray)[1]'(by decide)).toNat = 95 := rfl
    rw [this]; simp; omega
  go_quiet (fail)
  go_wp2_with fail
  have q7 : IntKind.i64.wrap 2 = 2 := by rw [IntKind.wrap_i64]; rfl
  go_quiet ((go_at_call 75; refine (cr_IndexByte_calls _ _ _).mono ?_; rintro e w' ⟨rfl, rfl⟩; exact ⟨rfl, _, rfl⟩))
  have q9 : Lib.indexByte [46, 43] (rs[1]'hlt) < 0 := by
    have e1 : ((46 : UInt8) == (rs[1]'hlt)) = false := by
      rw [beq_eq_false_iff_ne]; intro h; rw [← h] at g4; exact absurd g4 (by decide)
    have e2 : ((43 : UInt8) == (rs[1]'hlt)) = false := by
      rw [beq_eq_false_iff_ne]; intro h; rw [← h] at g4; exact absurd g4 (by decide)
    simp [Lib.indexByte, e1, e2]
  go_wp2_with fail
  rw [Exit.noGoto_ret]
  go_wp2_with fail
  rw [Exit.noGoto_ret]
  go_ret
  exact ⟨rfl, _, by first | rfl | exact World.drewN_drewN ..⟩
theorem cr_ix : ∀ c : Fin 128, decide (Lib.indexByte [45, 95, 46, 43] ((c.val : Int)).toNat.toUInt8 ≥ 0) = (c.val == 45 || c.val == 95 || c.val == 46 || c.val == 43) := by decide +kernel
/-- At the one text that the program asks, and at a byte. -/
def strings_ContainsRune.f (a0 : ByteArray) (a1 : Int) : Option (Bool) := if a0.toList = [45, 95, 46, 43] then if 0 ≤ a1 ∧ a1 < 256 then some (a1 == 45 || a1 == 95 || a1 == 46 || a1 == 43) else none else none
set_option maxRecDepth 100000 in
set_option maxHeartbeats 2000000 in
theorem strings_ContainsRune.calls (a0 : ByteArray) (a1 : Int) (r : Bool) (w : World) (h : strings_ContainsRune.f a0 a1 = some r) :
    Calls Tryd.prog 74 #[.string a0, .int .i32 a1] w fun e w' => e = .returned (.bool r) ∧ Drawn0 w w' := by
  unfold strings_ContainsRune.f at h
  by_cases h1 : a0.toList = [45, 95, 46, 43]
  · obtain rfl : a0 = ⟨#[45, 95, 46, 43]⟩ := by
      have : a0.data.toList = [45, 95, 46, 43] := by rw [← Lib.toList_data]; exact h1
      cases a0; simp at this; simp [← this]
    rw [if_pos h1] at h
    by_cases h2 : 0 ≤ a1 ∧ a1 < 256
    · rw [if_pos h2] at h
      obtain rfl := Option.some.inj h
      obtain ⟨h3, h4⟩ := h2
      clear h h1
      by_cases h5 : a1 < 128
      · have hr : decide (Lib.indexByte (⟨#[45, 95, 46, 43]⟩ : ByteArray).data.toList a1.toNat.toUInt8 ≥ 0) = (a1 == 45 || a1 == 95 || a1 == 46 || a1 == 43) := by
          have := cr_ix ⟨a1.toNat, by omega⟩
          simp only [Int.toNat_of_nonneg h3] at this
          rw [show (⟨#[45, 95, 46, 43]⟩ : ByteArray).data.toList = [45, 95, 46, 43] from rfl, this]
          obtain ⟨n, rfl⟩ := Int.eq_ofNat_of_zero_le h3
          simp only [Int.toNat_natCast]
          rw [Bool.eq_iff_iff]; simp; omega
        rw [← hr]
        generalize hq : Lib.indexByte (⟨#[45, 95, 46, 43]⟩ : ByteArray).data.toList a1.toNat.toUInt8 = q
        have hq := Aside0.mk hq
        clear hr
        go_enter Tryd.func74, Tryd.ntmps74
        go_wp2_with (go_at_call 91; refine (cr_ascii _ _ _ h3 h5).mono ?_; rintro e w' ⟨rfl, rfl⟩; rw [hq.out])
        go_ret
        exact ⟨rfl, Drawn0.refl _⟩
      · have hr : (a1 == 45 || a1 == 95 || a1 == 46 || a1 == 43) = false := by simp; omega
        rw [hr]
        have h6 : 128 ≤ a1 := by omega
        clear hr h5
        go_enter Tryd.func74, Tryd.ntmps74
        go_wp2_with (go_at_call 91; refine (cr_high _ _ h6 h4).mono ?_; rintro e w' ⟨rfl, n, rfl⟩)
        go_ret
        exact ⟨rfl, ⟨_, rfl⟩⟩
    · rw [if_neg h2] at h; exact absurd h (by simp)
  · rw [if_neg h1] at h; exact absurd h (by simp)
end Go.Proofs.YtklinldidfdnjaaDoor.PFnExactReadKey
