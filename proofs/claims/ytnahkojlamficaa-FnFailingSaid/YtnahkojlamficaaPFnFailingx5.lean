-- Laid by a program of this session: a turned copy of the kit's print, with contracts by hand beside.
import Derived.Test.YtnahkojlamficaaPFnFailingx0
namespace Go.Proofs.Ytnahkojlamficaa.PFnFailing
open Go.RowKit Go.Proofs.YtnahkojlamficaaW.PrintWords Go.Proofs.YtnahkojlamficaaW.PrintLast Go.Proofs.YtnahkojlamficaaW.PrintMore
theorem zf0 {X : Prop} (h : X := by first | rfl | (simp; done) | (simp [*]; done)) : X := h
theorem zf1 {A0 X : Prop} (a0 : A0) (h : A0 → X := by intro a0_; (with_reducible repeat (first | apply Kd.R_alloc | apply Kd.R_drewN | apply Kd.R_drew)); exact a0_) : X := h a0
theorem zf2 {X : Prop} (h : X := by repeat (first | (with_reducible first | exact HK.out | apply Kept.alloc | apply Kept.drewN | apply Kept.drew) | exact HK.out)) : X := h
theorem zf3 {X : Prop} (h : X := by repeat (first | (with_reducible first | exact HB.out | apply below_alloc | apply pw_below_drewN | apply below_drew1) | exact HB.out)) : X := h
theorem zf4 {X : Prop} (h : X := by first | (with_reducible assumption) | assumption) : X := h
theorem zf5 {X : Prop} (h : X := by first | rfl | (simp [errW_none, errW_some] <;> rfl) | (simp [*, errW_none, errW_some] <;> rfl)) : X := h
theorem zf6 {X : Prop} (h : X := by first | exact HK.out.1 | exact (show Kept w _ (fun k_ => P0_ k_) from by repeat (first | (with_reducible first | exact HK.out | apply Kept.alloc | apply Kept.drewN | apply Kept.drew) | exact HK.out)).1) : X := h
theorem zf7 {A0 X : Prop} (a0 : A0) (h : A0 → X := by intro a0_; repeat (first | (with_reducible exact a0_) | (with_reducible refine Kd.C_alloc ?_ _) | (with_reducible refine Kd.C_drewN ?_ _) | (with_reducible refine Kd.C_drew ?_) | exact a0_)) : X := h a0
theorem zf8 {A0 X : Prop} (a0 : A0) (h : A0 → X := by intro a0_; (with_reducible repeat (first | apply Kd.R_alloc | apply Kd.R_drewN | apply Kd.R_drew)); exact Kd.R_mono a0_ (fun _ hk => ⟨hk.1.1, hk.2⟩)) : X := h a0
theorem zf9 {X : Prop} (h : X := by rw [Ny140.out]; exact Kd.C_take (m := (x5_1 : Int).toNat) ((Kd.R_reads' (Kd.R_after (ok := (fun k_ => (P0_ k_ ∨ w.heap.size ≤ k_))) (by (with_reducible repeat (first | apply Kd.R_alloc | apply Kd.R_drewN | apply Kd.R_drew)); exact HO_0.out) hg hat)).2.2) KL19.out) : X := h
theorem zf10 {X : Prop} (h : X := by rw [Ny150.out, KA22.out]; exact Kd.C_drop (m := (x5_1 : Int).toNat) (c := co16) ((Kd.R_reads' (Kd.R_after (ok := (fun k_ => (P0_ k_ ∨ w.heap.size ≤ k_))) (by (with_reducible repeat (first | apply Kd.R_alloc | apply Kd.R_drewN | apply Kd.R_drew)); exact HO_0.out) hg hat)).2.2) KL22.out ((Kd.R_reads' (Kd.R_after (ok := (fun k_ => (P0_ k_ ∨ w.heap.size ≤ k_))) (by (with_reducible repeat (first | apply Kd.R_alloc | apply Kd.R_drewN | apply Kd.R_drew)); exact HO_0.out) hg hat)).2.1)) : X := h
theorem zf11 {A0 X : Prop} (a0 : A0) (h : A0 → X := by intro a0_; (with_reducible repeat (first | apply Kd.R_alloc | apply Kd.R_drewN | apply Kd.R_drew)); exact Kd.R_mono a0_ (fun _ hk => hk.1)) : X := h a0
theorem zf12 {X : Prop} (h : X := by rw [Ny160.out]; exact Kd.C_take (m := (x5_1 : Int).toNat) ((Kd.R_reads' (Kd.R_after (ok := (fun k_ => (P0_ k_ ∨ w.heap.size ≤ k_))) (by (with_reducible repeat (first | apply Kd.R_alloc | apply Kd.R_drewN | apply Kd.R_drew)); exact HO_0.out) hg hat)).2.2) KL35.out) : X := h
theorem zf13 {X : Prop} (h : X := by rw [Ny170.out, KA38.out]; exact Kd.C_drop (m := (x5_1 : Int).toNat) (c := co32) ((Kd.R_reads' (Kd.R_after (ok := (fun k_ => (P0_ k_ ∨ w.heap.size ≤ k_))) (by (with_reducible repeat (first | apply Kd.R_alloc | apply Kd.R_drewN | apply Kd.R_drew)); exact HO_0.out) hg hat)).2.2) KL38.out ((Kd.R_reads' (Kd.R_after (ok := (fun k_ => (P0_ k_ ∨ w.heap.size ≤ k_))) (by (with_reducible repeat (first | apply Kd.R_alloc | apply Kd.R_drewN | apply Kd.R_drew)); exact HO_0.out) hg hat)).2.1)) : X := h
theorem zf14 {X : Prop} (h : X := by repeat (first | exact Drawn0.refl _ | apply Drawn0.step)) : X := h
attribute [local go_sem] max2_int min2_int max_two min_two max_three min_three max_four min_four   -- for this text's walks alone
set_option linter.unusedVariables false
set_option linter.unusedSimpArgs false

/-! ### spec_l3Add: function 55 -/
def spec_l3Add.l0 : Nat → List ByteArray → ByteArray → Int → Option (List ByteArray)
 | 0, _, _, _ => none
 | k + 1, x0, x1, x5 => if x5 < (x0.length : Int) then (if 0 ≤ x5 then (if (Op.bytesLess ((rdOf ByteArray.empty x0 x5).toList) x1.toList) = true then (spec_l3Add.l0 k x0 x1 (wrap64 (x5 + 1))) else (if (rdOf ByteArray.empty x0 x5).toList = x1.toList then (some x0) else ((some (([] : List ByteArray) : List ByteArray)).bind fun y137 => (if x5 ≤ (x0.length : Int) then ((some (x0.take (x5 : Int).toNat : List ByteArray)).bind fun y140 => (if y137.length + y140.length < 8796093022208 then ((some (y137 ++ y140 : List ByteArray)).bind fun y144 => (if y144.length < 8796093022208 then ((some (y144 ++ [x1] : List ByteArray)).bind fun y147 => ((some (x0.drop (x5 : Int).toNat : List ByteArray)).bind fun y150 => (if y147.length + y150.length < 8796093022208 then (some (y147 ++ y150)) else (none)))) else (none))) else (none))) else (none))))) else (none)) else ((some (([] : List ByteArray) : List ByteArray)).bind fun y157 => (if 0 ≤ x5 then (if x5 ≤ (x0.length : Int) then ((some (x0.take (x5 : Int).toNat : List ByteArray)).bind fun y160 => (if y157.length + y160.length < 8796093022208 then ((some (y157 ++ y160 : List ByteArray)).bind fun y164 => (if y164.length < 8796093022208 then ((some (y164 ++ [x1] : List ByteArray)).bind fun y167 => ((some (x0.drop (x5 : Int).toNat : List ByteArray)).bind fun y170 => (if y167.length + y170.length < 8796093022208 then (some (y167 ++ y170)) else (none)))) else (none))) else (none))) else (none)) else (none)))
def spec_l3Add.f (k : Nat) (l0 : List ByteArray) (a1 : ByteArray) : Option (List ByteArray) := spec_l3Add.l0 k l0 a1 0
theorem spec_l3Add.mono_l : ∀ k, (∀ y0 y1 y2, LeO (spec_l3Add.l0 k y0 y1 y2) (spec_l3Add.l0 (k + 1) y0 y1 y2))
 | 0 => fun _ _ _ r h => by simp [spec_l3Add.l0] at h
 | k + 1 => by
  have ih0 := spec_l3Add.mono_l k
  ·intro y0 y1 y2
   unfold spec_l3Add.l0
   repeat' first
   | (with_reducible exact ih0 _ _ _)
   | (with_reducible exact LeO.refl _)
   | (with_reducible exact LeO.none _)
   | (with_reducible refine LeO.ite ?_ ?_)
   | (with_reducible refine LeO.bind ?_ (fun _ => ?_))
   | exact ih0 _ _ _
   | exact LeO.none _
   | refine LeO.ite ?_ ?_
   | refine LeO.bind ?_ (fun _ => ?_)
theorem spec_l3Add.mono : ∀ a0 a1 k, LeO (spec_l3Add.f k a0 a1) (spec_l3Add.f (k + 1) a0 a1) := by
 intro a0 a1 k
 have ih0 := spec_l3Add.mono_l k
 unfold spec_l3Add.f
 repeat' first
   | (with_reducible exact ih0 _ _ _)
   | (with_reducible exact LeO.refl _)
   | (with_reducible exact LeO.none _)
   | (with_reducible refine LeO.ite ?_ ?_)
   | (with_reducible refine LeO.bind ?_ (fun _ => ?_))
   | exact ih0 _ _ _
   | exact LeO.none _
   | refine LeO.ite ?_ ?_
   | refine LeO.bind ?_ (fun _ => ?_)
def spec_l3Add.T7 : Bool × List (List Nat × List Nat) := (true, [([], []), ([], []), ([1], [1]), ([0, 2], [0, 2]), ([], []), ([], []), ([4, 5], [4, 5]), ([3, 6, 3], [3, 6]), ([7, 7, 0, 1, 2, 3, 4, 5, 6, 7], [7])])
def spec_l3Add.B7 : List Nat := [0, 0, 2, 7, 0, 0, 48, 127, 255]
theorem spec_l3Add.tab7 : rtab .any (opsOf Try.f55 7) = spec_l3Add.T7 := by kernel_rfl
theorem spec_l3Add.bits7 : waitsOk spec_l3Add.T7.2 spec_l3Add.B7 = true := by kernel_rfl
set_option maxHeartbeats 8000000 in
set_option maxRecDepth 100000 in
theorem spec_l3Add.calls (k : Nat) (P0_ : Nat → Prop) (u9000_ : Value) (l0 : List ByteArray) (a1 : ByteArray) (r : List ByteArray) (w0 w : World) (hB : Below w0.heap.size w0 w) (ho0 : Kd.R Kd.string 9 w w0.heap.size P0_ u9000_ l0) (h : spec_l3Add.f k l0 a1 = some r) :
  Calls Try.prog 55 #[u9000_, .string a1] w fun e w' => ∃ v0_ : Value, e = .returned (v0_) ∧ Kd.R Kd.string 9 w' w0.heap.size (fun k_ => (P0_ k_ ∨ w.heap.size ≤ k_)) v0_ r ∧ Below w0.heap.size w0 w' ∧ Kept w w' (fun k_ => P0_ k_) := by
 have HO0 := Aside0.mk (show Kd.R Kd.string 9 w w0.heap.size (fun k_ => (P0_ k_ ∨ w.heap.size ≤ k_)) u9000_ l0 from Kd.R_mono ho0 (fun k_ hk => (.inl hk)))
 have HK := Aside0.mk (Kept.refl w (fun k_ => P0_ k_))
 have HW0 := Aside0.mk hB.size
 have HB := Aside0.mk hB
 clear hB
 have H : (spec_l3Add.l0 k l0 a1 0) = some r := h
 clear h
 have H' := Aside0.mk H
 clear H
 go_enter Try.func55, Try.ntmps55
 go_wp2
 go_loopg [5] k (fun kq v5 w' => ∃ (x5_1 : Int), v5 = .int .i64 x5_1 ∧ Aside0 (spec_l3Add.l0 kq l0 a1 x5_1 = some r) ∧ Aside0 (kq ≤ k) ∧ Aside0 (Kd.R Kd.string 9 w' w0.heap.size (fun k_ => (P0_ k_ ∨ w.heap.size ≤ k_)) u9000_ l0) ∧ Aside0 (Kept w w' (fun k_ => P0_ k_)) ∧ Aside0 (Below w0.heap.size w0 w'))
 case atStart => exact ⟨(0), zf0, H', ⟨Nat.le_refl _⟩, ⟨zf1 HO0.out⟩, ⟨zf2⟩, ⟨zf3⟩⟩
 case round =>
  clear H'
  try clear p2
  obtain ⟨x5_1, rfl, HA, HK1, HO_0, HK, HB⟩ := hrel
  cases gk with
  | zero => exact absurd HA.out (by simp [spec_l3Add.l0])
  | succ k1 =>
   have H := HA.out
   clear HA
   simp only [spec_l3Add.l0] at H
   by_cases c3 : x5_1 < (l0.length : Int)
   ·rw [if_pos c3] at H
    have c3b0 : decide (x5_1 < (l0.length : Int)) = true := decide_eq_true c3
    clear c3
    by_cases c4 : 0 ≤ x5_1
    ·rw [if_pos c4] at H
     have c4b0 : decide (0 ≤ x5_1) = true := decide_eq_true c4
     clear c4
     by_cases c5 : (Op.bytesLess ((rdOf ByteArray.empty l0 x5_1).toList) a1.toList) = true
     ·rw [if_pos c5] at H
      have c5b0 : (Op.bytesLess ((rdOf ByteArray.empty l0 x5_1).toList) a1.toList) = true := c5
      clear c5
      have H' := Aside0.mk H
      clear H
      obtain ⟨Ao6, co6, eo6⟩ := Kd.R_slice HO_0.out
      subst eo6
      have p135 : 0 ≤ (x5_1 : Int) := of_decide_eq_true zf4
      have q135 : x5_1 < (l0.length : Int) := of_decide_eq_true zf4
      obtain ⟨ad135, e135, hx135_0⟩ := Kd.at_string (Kd.R_reads' HO_0.out).2.2 x5_1 p135 q135
      cases e135
      replace p135 := eq_true p135
      replace q135 := eq_true q135
      go_wp2
      go_roundg k1
      case measure => have := HK1.out; omega
      case rel => exact ⟨(wrap64 (x5_1 + 1)), zf0, H', ⟨by have := HK1.out; omega⟩, ⟨zf1 HO_0.out⟩, ⟨zf2⟩, ⟨zf3⟩⟩
     ·rw [if_neg c5] at H
      have c5b0 : (Op.bytesLess ((rdOf ByteArray.empty l0 x5_1).toList) a1.toList) = false := by simpa using c5
      clear c5
      by_cases c7 : (rdOf ByteArray.empty l0 x5_1).toList = a1.toList
      ·rw [if_pos c7] at H
       have c7b0 : ((rdOf ByteArray.empty l0 x5_1).toList == a1.toList) = true := beq_iff_eq.mpr c7
       have c7b1 : ((rdOf ByteArray.empty l0 x5_1).toList != a1.toList) = false := bne_eq_false_iff_eq.mpr c7
       clear c7
       obtain rfl := Option.some.inj H
       obtain ⟨Ao8, co8, eo8⟩ := Kd.R_slice HO_0.out
       subst eo8
       have p135 : 0 ≤ (x5_1 : Int) := of_decide_eq_true zf4
       have q135 : x5_1 < (l0.length : Int) := of_decide_eq_true zf4
       obtain ⟨ad135, e135, hx135_0⟩ := Kd.at_string (Kd.R_reads' HO_0.out).2.2 x5_1 p135 q135
       cases e135
       replace p135 := eq_true p135
       replace q135 := eq_true q135
       have p136 : 0 ≤ (x5_1 : Int) := of_decide_eq_true zf4
       have q136 : x5_1 < (l0.length : Int) := of_decide_eq_true zf4
       obtain ⟨ad136, e136, hx136_0⟩ := Kd.at_string (Kd.R_reads' HO_0.out).2.2 x5_1 p136 q136
       obtain rfl : ad135 = ad136 := (by injection e136)
       replace p136 := eq_true p136
       replace q136 := eq_true q136
       go_wp2
       go_ret
       exact ⟨_, zf5, zf1 HO_0.out, zf3, zf2⟩
      ·rw [if_neg c7] at H
       have c7b0 : ((rdOf ByteArray.empty l0 x5_1).toList == a1.toList) = false := beq_eq_false_iff_ne.mpr c7
       have c7b1 : ((rdOf ByteArray.empty l0 x5_1).toList != a1.toList) = true := bne_iff_ne.mpr c7
       obtain ⟨y137, hy137⟩ : ∃ y_ : List ByteArray, y_ = (([] : List ByteArray)) := ⟨_, rfl⟩
       replace H : (if x5_1 ≤ (l0.length : Int) then ((some (l0.take (x5_1 : Int).toNat : List ByteArray)).bind fun y140 => (if y137.length + y140.length < 8796093022208 then ((some (y137 ++ y140 : List ByteArray)).bind fun y144 => (if y144.length < 8796093022208 then ((some (y144 ++ [a1] : List ByteArray)).bind fun y147 => ((some (l0.drop (x5_1 : Int).toNat : List ByteArray)).bind fun y150 => (if y147.length + y150.length < 8796093022208 then (some (y147 ++ y150)) else (none)))) else (none))) else (none))) else (none)) = some r := by first | (rw [hy137]; with_reducible exact H) | (have H2_ := (Option.bind_some _ _).symm.trans H; rw [hy137]; with_reducible exact H2_) | (have H2_ := (Option.bind_some _ _).symm.trans H; with_reducible exact H2_) | with_reducible exact H | (rw [hy137]; exact H) | exact H
       have Ny137 := Aside0.mk hy137
       clear hy137
       have c9b0 := eq_true (of_decide_eq_true zf4 : 0 ≤ x5_1)
       by_cases c10 : x5_1 ≤ (l0.length : Int)
       ·rw [if_pos c10] at H
        have c10b0 := eq_true c10
        have c10b1 : decide (x5_1 ≤ (l0.length : Int)) = true := decide_eq_true c10
        clear c10
        obtain ⟨y140, hy140⟩ : ∃ y_ : List ByteArray, y_ = (l0.take (x5_1 : Int).toNat) := ⟨_, rfl⟩
        replace H : (if y137.length + y140.length < 8796093022208 then ((some (y137 ++ y140 : List ByteArray)).bind fun y144 => (if y144.length < 8796093022208 then ((some (y144 ++ [a1] : List ByteArray)).bind fun y147 => ((some (l0.drop (x5_1 : Int).toNat : List ByteArray)).bind fun y150 => (if y147.length + y150.length < 8796093022208 then (some (y147 ++ y150)) else (none)))) else (none))) else (none)) = some r := by first | (rw [hy140]; with_reducible exact H) | (have H2_ := (Option.bind_some _ _).symm.trans H; rw [hy140]; with_reducible exact H2_) | (have H2_ := (Option.bind_some _ _).symm.trans H; with_reducible exact H2_) | with_reducible exact H | (rw [hy140]; exact H) | exact H
        have Ny140 := Aside0.mk hy140
        clear hy140
        by_cases c11 : y137.length + y140.length < 8796093022208
        ·rw [if_pos c11] at H
         have LMc11 := Aside0.mk c11
         clear c11
         obtain ⟨y144, hy144⟩ : ∃ y_ : List ByteArray, y_ = (y137 ++ y140) := ⟨_, rfl⟩
         replace H : (if y144.length < 8796093022208 then ((some (y144 ++ [a1] : List ByteArray)).bind fun y147 => ((some (l0.drop (x5_1 : Int).toNat : List ByteArray)).bind fun y150 => (if y147.length + y150.length < 8796093022208 then (some (y147 ++ y150)) else (none)))) else (none)) = some r := by first | (rw [hy144]; with_reducible exact H) | (have H2_ := (Option.bind_some _ _).symm.trans H; rw [hy144]; with_reducible exact H2_) | (have H2_ := (Option.bind_some _ _).symm.trans H; with_reducible exact H2_) | with_reducible exact H | (rw [hy144]; exact H) | exact H
         have Ny144 := Aside0.mk hy144
         clear hy144
         by_cases c12 : y144.length < 8796093022208
         ·rw [if_pos c12] at H
          have LMc12 := Aside0.mk c12
          clear c12
          obtain ⟨y147, hy147⟩ : ∃ y_ : List ByteArray, y_ = (y144 ++ [a1]) := ⟨_, rfl⟩
          replace H : ((some (l0.drop (x5_1 : Int).toNat : List ByteArray)).bind fun y150 => (if y147.length + y150.length < 8796093022208 then (some (y147 ++ y150)) else (none))) = some r := by first | (rw [hy147]; with_reducible exact H) | (have H2_ := (Option.bind_some _ _).symm.trans H; rw [hy147]; with_reducible exact H2_) | (have H2_ := (Option.bind_some _ _).symm.trans H; with_reducible exact H2_) | with_reducible exact H | (rw [hy147]; exact H) | exact H
          have Ny147 := Aside0.mk hy147
          clear hy147
          have c13b0 := eq_true (of_decide_eq_true zf4 : 0 ≤ x5_1)
          have c14b0 := eq_true (of_decide_eq_true zf4 : x5_1 ≤ (l0.length : Int))
          obtain ⟨y150, hy150⟩ : ∃ y_ : List ByteArray, y_ = (l0.drop (x5_1 : Int).toNat) := ⟨_, rfl⟩
          replace H : (if y147.length + y150.length < 8796093022208 then (some (y147 ++ y150)) else (none)) = some r := by first | (rw [hy150]; with_reducible exact H) | (have H2_ := (Option.bind_some _ _).symm.trans H; rw [hy150]; with_reducible exact H2_) | (have H2_ := (Option.bind_some _ _).symm.trans H; with_reducible exact H2_) | with_reducible exact H | (rw [hy150]; exact H) | exact H
          have Ny150 := Aside0.mk hy150
          clear hy150
          by_cases c15 : y147.length + y150.length < 8796093022208
          ·rw [if_pos c15] at H
           have LMc15 := Aside0.mk c15
           clear c15
           obtain ⟨y154, hy154⟩ : ∃ y_ : List ByteArray, y_ = (y147 ++ y150) := ⟨_, rfl⟩
           replace H : (some y154) = some r := by first | (rw [hy154]; with_reducible exact H) | (have H2_ := (Option.bind_some _ _).symm.trans H; rw [hy154]; with_reducible exact H2_) | (have H2_ := (Option.bind_some _ _).symm.trans H; with_reducible exact H2_) | with_reducible exact H | (rw [hy154]; exact H) | exact H
           have Ny154 := Aside0.mk hy154
           clear hy154
           obtain rfl := Option.some.inj H
           obtain ⟨Ao16, co16, eo16⟩ := Kd.R_slice HO_0.out
           subst eo16
           have p135 : 0 ≤ (x5_1 : Int) := of_decide_eq_true zf4
           have q135 : x5_1 < (l0.length : Int) := of_decide_eq_true zf4
           obtain ⟨ad135, e135, hx135_0⟩ := Kd.at_string (Kd.R_reads' HO_0.out).2.2 x5_1 p135 q135
           cases e135
           replace p135 := eq_true p135
           replace q135 := eq_true q135
           have p136 : 0 ≤ (x5_1 : Int) := of_decide_eq_true zf4
           have q136 : x5_1 < (l0.length : Int) := of_decide_eq_true zf4
           obtain ⟨ad136, e136, hx136_0⟩ := Kd.at_string (Kd.R_reads' HO_0.out).2.2 x5_1 p136 q136
           obtain rfl : ad135 = ad136 := (by injection e136)
           replace p136 := eq_true p136
           replace q136 := eq_true q136
           try go_wp2_with (first | ((with_reducible refine gate_dst (N := 34) rfl ?_); refine Kd.R_lit Kd.string _ 9 ?hg (N := 34) ?hd (xs := ([] : List ByteArray)) (inner := []) (ok := fun _ => True) (okp := fun _ => True) ?hr ?hp (fun _ hk => hk) trivial (Below.refl _ _) (Nat.le_refl _) (by simp) ?_; (case hd => rfl); (case hg => rfl); (case hr => first | (go_simp; done) | (go_simp; rfl)); (case hp => exact (Reps.none _ _)); intro v138 w17 ho18 hb hg_ hnew_; clear hg_ hnew_; (first | rw [← Ny137.out] at ho18 | (simp only [Int.reduceToNat] at ho18; rw [← Ny137.out] at ho18)); have HO139 := Aside0.mk (Kd.R_lower (Kd.R_new' (Kd.R_newM (M := fun k_ => (P0_ k_ ∨ w.heap.size ≤ k_)) ho18 zf6 (fun k_ h_ => .inr h_)) (Kd.R_lt (zf1 HO_0.out))) (below_size qB)); replace HO_0 := Aside0.mk (Kd.R_elder' (zf1 HO_0.out) (Kd.R_base ho18) hb); replace HK := Aside0.mk (Kept.below (S := (fun k_ => P0_ k_)) zf2 hb); replace HB := Aside0.mk (below_step qB hb); clear hb ho18; have q19 : (x5_1 : Int) ≤ ((l0.length : Int) : Int) := of_decide_eq_true zf4; obtain ⟨i019, hi019, _, hsz19, _⟩ := info_parts info9; have hroom19 : l0.length ≤ co16 := (Kd.R_reads' HO_0.out).2.1; have hC19 : Kd.C Kd.string _ (some ad135) l0.length l0 := (Kd.R_reads' HO_0.out).2.2; have hcut19 := cut_to (P := Try.prog) 29 9 .i64 Try.underlying29 hi019 (some ad135) l0.length co16 x5_1 (of_decide_eq_true zf4) q19 hroom19; have hr19 := Kd.C_take (m := (x5_1 : Int).toNat) hC19 (by omega); have hy19 : y140.length = (x5_1 : Int).toNat := (by rw [Ny140.out, List.length_take]; omega); rw [← Ny140.out] at hr19; rw [← hy19] at hcut19; have HR143 := Aside0.mk hr19; have HC143 := Aside0.mk (show y140.length ≤ co16 from by omega); clear hr19 hC19 hroom19 hi019 hsz19; have KY19 := Aside0.mk hy19; clear hy19; have KL19 := Aside0.mk (show (x5_1 : Int).toNat ≤ l0.length from by omega); replace q19 := eq_true q19) | ((with_reducible refine gate_builtin (b := .append) (xs := #[.tmp 34, .tmp 37]) rfl ?_); at_builtin; refine Kd.R_append_rows Kd.string (w0 := w0) w0.heap.size rfl (.tmp 34) (.tmp 37) 29 9 (.string ⟨#[]⟩) 16 rfl Try.underlying29 info9 rfl (by decide) (by omega) v138 y137 y140 _ _ _ (fun k_ => (P0_ k_ ∨ w.heap.size ≤ k_) ∧ some k_ ≠ (.slice (some ad135) l0.length co16 : Value).ownBlock) (fun _ => False) rfl rfl ?aO ?aR (fun _ _ h => h) (fun _ h => h.elim) ?aF ?aB ?aS ?aL ?_; (case aR => repeat (first | exact (zf7 HR143.out) | (with_reducible refine Kd.C_alloc ?_ _) | (with_reducible refine Kd.C_drewN ?_ _) | (with_reducible refine Kd.C_drew ?_))); (case aB => exact qB); (case aF => exact (fun k_ hk => ⟨(.inr (Nat.le_trans zf6 hk)), Kd.fresh' (Kd.R_lt (zf1 HO_0.out)) k_ hk⟩)); (case aO => exact (zf8 HO139.out)); (case aS => exact (below_size qB)); (case aL => have := LMc11.out; omega); intro v145 w20 ho hb hg hat; rw [← Ny144.out] at ho; replace HB := Aside0.mk (hb); replace HK := Aside0.mk (Kept.of_grown (S := (fun k_ => P0_ k_)) hg zf2 (fun k_ e_ => (HO139.out.1 k_ e_).1.1)); replace HR143 := Aside0.mk ((show Kd.C Kd.string w20 (some ad135) y140.length y140 from zf9)); replace HO_0 := Aside0.mk (Kd.R_after (ok := (fun k_ => (P0_ k_ ∨ w.heap.size ≤ k_))) (zf1 HO_0.out) hg hat); have HO146 := Aside0.mk (ho); clear HO139; clear ho hb hg hat))
           replace HO_0 := Aside0.mk (Kd.R_drew HO_0.out)
           replace HO146 := Aside0.mk (Kd.R_drew HO146.out)
           replace HR143 := Aside0.mk (Kd.C_drew HR143.out)
           replace HK := Aside0.mk (Kept.drew HK.out)
           replace HB := Aside0.mk (below_drew1 HB.out)
           have q22 : (x5_1 : Int) ≤ ((l0.length : Int) : Int) := of_decide_eq_true zf4
           obtain ⟨i022, hi022, _, hsz22, _⟩ := info_parts info9
           have hroom22 : l0.length ≤ co16 := (Kd.R_reads' HO_0.out).2.1
           have hC22 : Kd.C Kd.string _ (some ad135) l0.length l0 := (Kd.R_reads' HO_0.out).2.2
           have q022 : (0 : Int) ≤ (x5_1 : Int) := of_decide_eq_true zf4
           have hcut22 := cut_from (P := Try.prog) 29 9 .i64 Try.underlying29 hi022 1 hsz22 (some ad135) l0.length co16 x5_1 q022 q22
           have hr22 := Kd.C_drop (m := (x5_1 : Int).toNat) (c := co16) hC22 (by omega) hroom22
           obtain ⟨A22, hA22⟩ : ∃ A1, A1 = (if co16 = (x5_1 : Int).toNat then (some ad135) else ((some ad135) : Option Addr).map (·.add ((x5_1 : Int).toNat * 1))) := ⟨_, rfl⟩
           obtain ⟨c22, hc22⟩ : ∃ c1, c1 = co16 - (x5_1 : Int).toNat := ⟨_, rfl⟩
           have hy22 : y150.length = l0.length - (x5_1 : Int).toNat := (by rw [Ny150.out, List.length_drop] <;> omega)
           rw [show (l0).drop (x5_1 : Int).toNat = y150 from Ny150.out.symm] at hr22
           replace hr22 : Kd.C Kd.string _ A22 y150.length y150 := (by rw [hA22]; exact hr22)
           rw [← hy22, ← hA22, ← hc22] at hcut22
           have HR153 := Aside0.mk hr22
           have HC153 := Aside0.mk (show y150.length ≤ c22 from by rw [hy22, hc22]; exact Nat.sub_le_sub_right hroom22 _)
           clear hr22 hC22 hroom22 hi022 hsz22 hc22
           have KY22 := Aside0.mk hy22
           have KA22 := Aside0.mk hA22
           clear hy22 hA22
           have KL22 := Aside0.mk (show (x5_1 : Int).toNat ≤ l0.length from by omega)
           replace q22 := eq_true q22
           refine start_ (n := 9) (S := fun w' => True) (ds := []) (tf 9 0) (by kernel_rfl) rfl rfl trivial (fun hHeld => ?_); refine with_tabW spec_l3Add.tab7 spec_l3Add.bits7 (fun HT_ HW_ => ?_)
           generalize w20.drew = w21 at HO_0 HO146 HR143 HK HB HR153 hHeld ⊢
           refine qA 0 39 (tf 9 1) ?_
           refine qA 1 40 (tf 9 3) ?_
           refine qA 4 43 (tf 9 19) ?_
           refine qA 5 44 (tf 9 51) ?_
           refine qA 6 45 (tf 9 115) ?_
           refine one_ (i := 2) (N := some 41) (tf 9 119) rfl rfl (one_of HT_.out (by kernel_rfl)) (by decide) (fun K hK => ?_)
           refine value_ (w1 := ?_) (v := ?_) (by rfl) rfl ?_ ?_
           rotate_left 2
           ·go_simp
            constructor
            ·rfl
            ·rfl
           refine hK.out _ _ trivial (fun hHeld => ?_)
           clear hK K
           refine norm_ (a' := ?_) ?_ ?_
           rotate_left
           ·show Act.put _ (some 41) _ = _
            simp only [Act.put, sT, s0, sS, i64_w, i32_w]
            rfl
           refine one_ (i := 3) (N := some 42) (tf 9 127) rfl rfl (one_of HT_.out (by kernel_rfl)) (by decide) (fun K hK => ?_)
           refine Kd.R_append_step Kd.string (w0 := w0) w0.heap.size (by rfl) (.tmp 39) (.tmp 41) 29 9 (.string ⟨#[]⟩) 16 rfl Try.underlying29 info9 rfl (by decide) (by omega) v145 y144 a1 [.string a1] (fun k_ => (P0_ k_ ∨ w.heap.size ≤ k_) ∧ some k_ ≠ (.slice (some ad135) l0.length co16 : Value).ownBlock) (fun _ => False) rfl rfl ?aP (fun _ hk => hk.elim) ?aF ?aO ?aB ?aS ?aL ?_
           (case aP => exact rfl)
           (case aB => exact qB)
           (case aF => exact (fun k_ hk => ⟨(.inr (Nat.le_trans zf6 hk)), Kd.fresh' (Kd.R_lt (zf1 HO_0.out)) k_ hk⟩))
           (case aO => exact (zf1 HO146.out))
           (case aS => exact (below_size qB))
           (case aL => have := LMc12.out; omega)
           intro v148 w23 ho hb hg hat
           rw [← Ny147.out] at ho
           replace HB := Aside0.mk (hb)
           replace HK := Aside0.mk (Kept.of_grown (S := (fun k_ => P0_ k_)) hg zf2 (fun k_ e_ => (HO146.out.1 k_ e_).1))
           replace HR143 := Aside0.mk ((show Kd.C Kd.string w23 (some ad135) y140.length y140 from zf9))
           replace HR153 := Aside0.mk ((show Kd.C Kd.string w23 A22 y150.length y150 from zf10))
           replace HO_0 := Aside0.mk (Kd.R_after (ok := (fun k_ => (P0_ k_ ∨ w.heap.size ≤ k_))) (zf1 HO_0.out) hg hat)
           have HO149 := Aside0.mk (ho)
           clear HO146
           clear ho hb hg hat
           refine hK.out _ _ trivial (fun hHeld => ?_)
           clear hK K
           refine norm_ (a' := ?_) ?_ ?_
           rotate_left
           ·show Act.put _ (some 42) _ = _
            simp only [Act.put, sT, s0, sS, i64_w, i32_w]
            rfl
           refine one_ (i := 7) (N := some 46) (tf 9 255) rfl rfl (one_of HT_.out (by kernel_rfl)) (by decide) (fun K hK => ?_)
           refine Kd.R_append_rows_step Kd.string (w0 := w0) w0.heap.size (by rfl) (.tmp 42) (.tmp 45) 29 9 (.string ⟨#[]⟩) 16 rfl Try.underlying29 info9 rfl (by decide) (by omega) v148 y147 y150 _ _ _ (fun k_ => (P0_ k_ ∨ w.heap.size ≤ k_) ∧ some k_ ≠ (.slice (some ad135) l0.length co16 : Value).ownBlock) (fun _ => False) rfl rfl ?aO ?aR (fun _ _ h => h) (fun _ h => h.elim) ?aF ?aB ?aS ?aL ?_
           (case aR => repeat (first | exact (zf7 HR153.out) | (with_reducible refine Kd.C_alloc ?_ _) | (with_reducible refine Kd.C_drewN ?_ _) | (with_reducible refine Kd.C_drew ?_)))
           (case aB => exact qB)
           (case aF => exact (fun k_ hk => ⟨(.inr (Nat.le_trans zf6 hk)), Kd.fresh' (Kd.R_lt (zf1 HO_0.out)) k_ hk⟩))
           (case aO => exact (zf1 HO149.out))
           (case aS => exact (below_size qB))
           (case aL => have := LMc15.out; omega)
           intro v155 w24 ho hb hg hat
           rw [← Ny154.out] at ho
           replace HB := Aside0.mk (hb)
           replace HK := Aside0.mk (Kept.of_grown (S := (fun k_ => P0_ k_)) hg zf2 (fun k_ e_ => (HO149.out.1 k_ e_).1))
           replace HR143 := Aside0.mk ((show Kd.C Kd.string w24 (some ad135) y140.length y140 from zf9))
           replace HR153 := Aside0.mk ((show Kd.C Kd.string w24 A22 y150.length y150 from zf10))
           replace HO_0 := Aside0.mk (Kd.R_after (ok := (fun k_ => (P0_ k_ ∨ w.heap.size ≤ k_))) (zf1 HO_0.out) hg hat)
           have HO156 := Aside0.mk (ho)
           clear HO149
           clear ho hb hg hat
           refine hK.out _ _ trivial (fun hHeld => ?_)
           clear hK K
           refine norm_ (a' := ?_) ?_ ?_
           rotate_left
           ·show Act.put _ (some 46) _ = _
            simp only [Act.put, sT, s0, sS, i64_w, i32_w]
            rfl
           refine qA 8 4 (tf 9 511) ?_
           refine done_ (done_of HT_.out (by kernel_rfl)) ?_
           try go_wp2
           go_ret
           exact ⟨_, zf5, zf11 HO156.out, zf3, zf2⟩
          ·rw [if_neg c15] at H
           exact absurd H (by simp)
         ·rw [if_neg c12] at H
          exact absurd H (by simp)
        ·rw [if_neg c11] at H
         exact absurd H (by simp)
       ·rw [if_neg c10] at H
        exact absurd H (by simp)
    ·rw [if_neg c4] at H
     exact absurd H (by simp)
   ·rw [if_neg c3] at H
    have c3b0 : decide (x5_1 < (l0.length : Int)) = false := decide_eq_false c3
    clear c3
    obtain ⟨y157, hy157⟩ : ∃ y_ : List ByteArray, y_ = (([] : List ByteArray)) := ⟨_, rfl⟩
    replace H : (if 0 ≤ x5_1 then (if x5_1 ≤ (l0.length : Int) then ((some (l0.take (x5_1 : Int).toNat : List ByteArray)).bind fun y160 => (if y157.length + y160.length < 8796093022208 then ((some (y157 ++ y160 : List ByteArray)).bind fun y164 => (if y164.length < 8796093022208 then ((some (y164 ++ [a1] : List ByteArray)).bind fun y167 => ((some (l0.drop (x5_1 : Int).toNat : List ByteArray)).bind fun y170 => (if y167.length + y170.length < 8796093022208 then (some (y167 ++ y170)) else (none)))) else (none))) else (none))) else (none)) else (none)) = some r := by first | (rw [hy157]; with_reducible exact H) | (have H2_ := (Option.bind_some _ _).symm.trans H; rw [hy157]; with_reducible exact H2_) | (have H2_ := (Option.bind_some _ _).symm.trans H; with_reducible exact H2_) | with_reducible exact H | (rw [hy157]; exact H) | exact H
    have Ny157 := Aside0.mk hy157
    clear hy157
    by_cases c25 : 0 ≤ x5_1
    ·rw [if_pos c25] at H
     have c25b0 := eq_true c25
     have c25b1 : decide (0 ≤ x5_1) = true := decide_eq_true c25
     clear c25
     by_cases c26 : x5_1 ≤ (l0.length : Int)
     ·rw [if_pos c26] at H
      have c26b0 := eq_true c26
      have c26b1 : decide (x5_1 ≤ (l0.length : Int)) = true := decide_eq_true c26
      clear c26
      obtain ⟨y160, hy160⟩ : ∃ y_ : List ByteArray, y_ = (l0.take (x5_1 : Int).toNat) := ⟨_, rfl⟩
      replace H : (if y157.length + y160.length < 8796093022208 then ((some (y157 ++ y160 : List ByteArray)).bind fun y164 => (if y164.length < 8796093022208 then ((some (y164 ++ [a1] : List ByteArray)).bind fun y167 => ((some (l0.drop (x5_1 : Int).toNat : List ByteArray)).bind fun y170 => (if y167.length + y170.length < 8796093022208 then (some (y167 ++ y170)) else (none)))) else (none))) else (none)) = some r := by first | (rw [hy160]; with_reducible exact H) | (have H2_ := (Option.bind_some _ _).symm.trans H; rw [hy160]; with_reducible exact H2_) | (have H2_ := (Option.bind_some _ _).symm.trans H; with_reducible exact H2_) | with_reducible exact H | (rw [hy160]; exact H) | exact H
      have Ny160 := Aside0.mk hy160
      clear hy160
      by_cases c27 : y157.length + y160.length < 8796093022208
      ·rw [if_pos c27] at H
       have LMc27 := Aside0.mk c27
       clear c27
       obtain ⟨y164, hy164⟩ : ∃ y_ : List ByteArray, y_ = (y157 ++ y160) := ⟨_, rfl⟩
       replace H : (if y164.length < 8796093022208 then ((some (y164 ++ [a1] : List ByteArray)).bind fun y167 => ((some (l0.drop (x5_1 : Int).toNat : List ByteArray)).bind fun y170 => (if y167.length + y170.length < 8796093022208 then (some (y167 ++ y170)) else (none)))) else (none)) = some r := by first | (rw [hy164]; with_reducible exact H) | (have H2_ := (Option.bind_some _ _).symm.trans H; rw [hy164]; with_reducible exact H2_) | (have H2_ := (Option.bind_some _ _).symm.trans H; with_reducible exact H2_) | with_reducible exact H | (rw [hy164]; exact H) | exact H
       have Ny164 := Aside0.mk hy164
       clear hy164
       by_cases c28 : y164.length < 8796093022208
       ·rw [if_pos c28] at H
        have LMc28 := Aside0.mk c28
        clear c28
        obtain ⟨y167, hy167⟩ : ∃ y_ : List ByteArray, y_ = (y164 ++ [a1]) := ⟨_, rfl⟩
        replace H : ((some (l0.drop (x5_1 : Int).toNat : List ByteArray)).bind fun y170 => (if y167.length + y170.length < 8796093022208 then (some (y167 ++ y170)) else (none))) = some r := by first | (rw [hy167]; with_reducible exact H) | (have H2_ := (Option.bind_some _ _).symm.trans H; rw [hy167]; with_reducible exact H2_) | (have H2_ := (Option.bind_some _ _).symm.trans H; with_reducible exact H2_) | with_reducible exact H | (rw [hy167]; exact H) | exact H
        have Ny167 := Aside0.mk hy167
        clear hy167
        have c29b0 := eq_true (of_decide_eq_true zf4 : 0 ≤ x5_1)
        have c30b0 := eq_true (of_decide_eq_true zf4 : x5_1 ≤ (l0.length : Int))
        obtain ⟨y170, hy170⟩ : ∃ y_ : List ByteArray, y_ = (l0.drop (x5_1 : Int).toNat) := ⟨_, rfl⟩
        replace H : (if y167.length + y170.length < 8796093022208 then (some (y167 ++ y170)) else (none)) = some r := by first | (rw [hy170]; with_reducible exact H) | (have H2_ := (Option.bind_some _ _).symm.trans H; rw [hy170]; with_reducible exact H2_) | (have H2_ := (Option.bind_some _ _).symm.trans H; with_reducible exact H2_) | with_reducible exact H | (rw [hy170]; exact H) | exact H
        have Ny170 := Aside0.mk hy170
        clear hy170
        by_cases c31 : y167.length + y170.length < 8796093022208
        ·rw [if_pos c31] at H
         have LMc31 := Aside0.mk c31
         clear c31
         obtain ⟨y174, hy174⟩ : ∃ y_ : List ByteArray, y_ = (y167 ++ y170) := ⟨_, rfl⟩
         replace H : (some y174) = some r := by first | (rw [hy174]; with_reducible exact H) | (have H2_ := (Option.bind_some _ _).symm.trans H; rw [hy174]; with_reducible exact H2_) | (have H2_ := (Option.bind_some _ _).symm.trans H; with_reducible exact H2_) | with_reducible exact H | (rw [hy174]; exact H) | exact H
         have Ny174 := Aside0.mk hy174
         clear hy174
         obtain rfl := Option.some.inj H
         obtain ⟨Ao32, co32, eo32⟩ := Kd.R_slice HO_0.out
         subst eo32
         try go_wp2_with (first | ((with_reducible refine gate_dst (N := 34) rfl ?_); refine Kd.R_lit Kd.string _ 9 ?hg (N := 34) ?hd (xs := ([] : List ByteArray)) (inner := []) (ok := fun _ => True) (okp := fun _ => True) ?hr ?hp (fun _ hk => hk) trivial (Below.refl _ _) (Nat.le_refl _) (by simp) ?_; (case hd => rfl); (case hg => rfl); (case hr => first | (go_simp; done) | (go_simp; rfl)); (case hp => exact (Reps.none _ _)); intro v158 w33 ho34 hb hg_ hnew_; clear hg_ hnew_; (first | rw [← Ny157.out] at ho34 | (simp only [Int.reduceToNat] at ho34; rw [← Ny157.out] at ho34)); have HO159 := Aside0.mk (Kd.R_lower (Kd.R_new' (Kd.R_newM (M := fun k_ => (P0_ k_ ∨ w.heap.size ≤ k_)) ho34 zf6 (fun k_ h_ => .inr h_)) (Kd.R_lt (zf1 HO_0.out))) (below_size qB)); replace HO_0 := Aside0.mk (Kd.R_elder' (zf1 HO_0.out) (Kd.R_base ho34) hb); replace HK := Aside0.mk (Kept.below (S := (fun k_ => P0_ k_)) zf2 hb); replace HB := Aside0.mk (below_step qB hb); clear hb ho34; have q35 : (x5_1 : Int) ≤ ((l0.length : Int) : Int) := of_decide_eq_true zf4; obtain ⟨i035, hi035, _, hsz35, _⟩ := info_parts info9; have hroom35 : l0.length ≤ co32 := (Kd.R_reads' HO_0.out).2.1; have hC35 : Kd.C Kd.string _ Ao32 l0.length l0 := (Kd.R_reads' HO_0.out).2.2; have hcut35 := cut_to (P := Try.prog) 29 9 .i64 Try.underlying29 hi035 Ao32 l0.length co32 x5_1 (of_decide_eq_true zf4) q35 hroom35; have hr35 := Kd.C_take (m := (x5_1 : Int).toNat) hC35 (by omega); have hy35 : y160.length = (x5_1 : Int).toNat := (by rw [Ny160.out, List.length_take]; omega); rw [← Ny160.out] at hr35; rw [← hy35] at hcut35; have HR163 := Aside0.mk hr35; have HC163 := Aside0.mk (show y160.length ≤ co32 from by omega); clear hr35 hC35 hroom35 hi035 hsz35; have KY35 := Aside0.mk hy35; clear hy35; have KL35 := Aside0.mk (show (x5_1 : Int).toNat ≤ l0.length from by omega); replace q35 := eq_true q35) | ((with_reducible refine gate_builtin (b := .append) (xs := #[.tmp 34, .tmp 37]) rfl ?_); at_builtin; refine Kd.R_append_rows Kd.string (w0 := w0) w0.heap.size rfl (.tmp 34) (.tmp 37) 29 9 (.string ⟨#[]⟩) 16 rfl Try.underlying29 info9 rfl (by decide) (by omega) v158 y157 y160 _ _ _ (fun k_ => (P0_ k_ ∨ w.heap.size ≤ k_) ∧ some k_ ≠ (.slice Ao32 l0.length co32 : Value).ownBlock) (fun _ => False) rfl rfl ?aO ?aR (fun _ _ h => h) (fun _ h => h.elim) ?aF ?aB ?aS ?aL ?_; (case aR => repeat (first | exact (zf7 HR163.out) | (with_reducible refine Kd.C_alloc ?_ _) | (with_reducible refine Kd.C_drewN ?_ _) | (with_reducible refine Kd.C_drew ?_))); (case aB => exact qB); (case aF => exact (fun k_ hk => ⟨(.inr (Nat.le_trans zf6 hk)), Kd.fresh' (Kd.R_lt (zf1 HO_0.out)) k_ hk⟩)); (case aO => exact (zf8 HO159.out)); (case aS => exact (below_size qB)); (case aL => have := LMc27.out; omega); intro v165 w36 ho hb hg hat; rw [← Ny164.out] at ho; replace HB := Aside0.mk (hb); replace HK := Aside0.mk (Kept.of_grown (S := (fun k_ => P0_ k_)) hg zf2 (fun k_ e_ => (HO159.out.1 k_ e_).1.1)); replace HR163 := Aside0.mk ((show Kd.C Kd.string w36 Ao32 y160.length y160 from zf12)); replace HO_0 := Aside0.mk (Kd.R_after (ok := (fun k_ => (P0_ k_ ∨ w.heap.size ≤ k_))) (zf1 HO_0.out) hg hat); have HO166 := Aside0.mk (ho); clear HO159; clear ho hb hg hat))
         replace HO_0 := Aside0.mk (Kd.R_drew HO_0.out)
         replace HO166 := Aside0.mk (Kd.R_drew HO166.out)
         replace HR163 := Aside0.mk (Kd.C_drew HR163.out)
         replace HK := Aside0.mk (Kept.drew HK.out)
         replace HB := Aside0.mk (below_drew1 HB.out)
         have q38 : (x5_1 : Int) ≤ ((l0.length : Int) : Int) := of_decide_eq_true zf4
         obtain ⟨i038, hi038, _, hsz38, _⟩ := info_parts info9
         have hroom38 : l0.length ≤ co32 := (Kd.R_reads' HO_0.out).2.1
         have hC38 : Kd.C Kd.string _ Ao32 l0.length l0 := (Kd.R_reads' HO_0.out).2.2
         have q038 : (0 : Int) ≤ (x5_1 : Int) := of_decide_eq_true zf4
         have hcut38 := cut_from (P := Try.prog) 29 9 .i64 Try.underlying29 hi038 1 hsz38 Ao32 l0.length co32 x5_1 q038 q38
         have hr38 := Kd.C_drop (m := (x5_1 : Int).toNat) (c := co32) hC38 (by omega) hroom38
         obtain ⟨A38, hA38⟩ : ∃ A1, A1 = (if co32 = (x5_1 : Int).toNat then Ao32 else (Ao32 : Option Addr).map (·.add ((x5_1 : Int).toNat * 1))) := ⟨_, rfl⟩
         obtain ⟨c38, hc38⟩ : ∃ c1, c1 = co32 - (x5_1 : Int).toNat := ⟨_, rfl⟩
         have hy38 : y170.length = l0.length - (x5_1 : Int).toNat := (by rw [Ny170.out, List.length_drop] <;> omega)
         rw [show (l0).drop (x5_1 : Int).toNat = y170 from Ny170.out.symm] at hr38
         replace hr38 : Kd.C Kd.string _ A38 y170.length y170 := (by rw [hA38]; exact hr38)
         rw [← hy38, ← hA38, ← hc38] at hcut38
         have HR173 := Aside0.mk hr38
         have HC173 := Aside0.mk (show y170.length ≤ c38 from by rw [hy38, hc38]; exact Nat.sub_le_sub_right hroom38 _)
         clear hr38 hC38 hroom38 hi038 hsz38 hc38
         have KY38 := Aside0.mk hy38
         have KA38 := Aside0.mk hA38
         clear hy38 hA38
         have KL38 := Aside0.mk (show (x5_1 : Int).toNat ≤ l0.length from by omega)
         replace q38 := eq_true q38
         refine start_ (n := 9) (S := fun w' => True) (ds := []) (tf 9 0) (by kernel_rfl) rfl rfl trivial (fun hHeld => ?_); refine with_tabW spec_l3Add.tab7 spec_l3Add.bits7 (fun HT_ HW_ => ?_)
         generalize w36.drew = w37 at HO_0 HO166 HR163 HK HB HR173 hHeld ⊢
         refine qA 0 39 (tf 9 1) ?_
         refine qA 1 40 (tf 9 3) ?_
         refine qA 4 43 (tf 9 19) ?_
         refine qA 5 44 (tf 9 51) ?_
         refine qA 6 45 (tf 9 115) ?_
         refine one_ (i := 2) (N := some 41) (tf 9 119) rfl rfl (one_of HT_.out (by kernel_rfl)) (by decide) (fun K hK => ?_)
         refine value_ (w1 := ?_) (v := ?_) (by rfl) rfl ?_ ?_
         rotate_left 2
         ·go_simp
          constructor
          ·rfl
          ·rfl
         refine hK.out _ _ trivial (fun hHeld => ?_)
         clear hK K
         refine norm_ (a' := ?_) ?_ ?_
         rotate_left
         ·show Act.put _ (some 41) _ = _
          simp only [Act.put, sT, s0, sS, i64_w, i32_w]
          rfl
         refine one_ (i := 3) (N := some 42) (tf 9 127) rfl rfl (one_of HT_.out (by kernel_rfl)) (by decide) (fun K hK => ?_)
         refine Kd.R_append_step Kd.string (w0 := w0) w0.heap.size (by rfl) (.tmp 39) (.tmp 41) 29 9 (.string ⟨#[]⟩) 16 rfl Try.underlying29 info9 rfl (by decide) (by omega) v165 y164 a1 [.string a1] (fun k_ => (P0_ k_ ∨ w.heap.size ≤ k_) ∧ some k_ ≠ (.slice Ao32 l0.length co32 : Value).ownBlock) (fun _ => False) rfl rfl ?aP (fun _ hk => hk.elim) ?aF ?aO ?aB ?aS ?aL ?_
         (case aP => exact rfl)
         (case aB => exact qB)
         (case aF => exact (fun k_ hk => ⟨(.inr (Nat.le_trans zf6 hk)), Kd.fresh' (Kd.R_lt (zf1 HO_0.out)) k_ hk⟩))
         (case aO => exact (zf1 HO166.out))
         (case aS => exact (below_size qB))
         (case aL => have := LMc28.out; omega)
         intro v168 w39 ho hb hg hat
         rw [← Ny167.out] at ho
         replace HB := Aside0.mk (hb)
         replace HK := Aside0.mk (Kept.of_grown (S := (fun k_ => P0_ k_)) hg zf2 (fun k_ e_ => (HO166.out.1 k_ e_).1))
         replace HR163 := Aside0.mk ((show Kd.C Kd.string w39 Ao32 y160.length y160 from zf12))
         replace HR173 := Aside0.mk ((show Kd.C Kd.string w39 A38 y170.length y170 from zf13))
         replace HO_0 := Aside0.mk (Kd.R_after (ok := (fun k_ => (P0_ k_ ∨ w.heap.size ≤ k_))) (zf1 HO_0.out) hg hat)
         have HO169 := Aside0.mk (ho)
         clear HO166
         clear ho hb hg hat
         refine hK.out _ _ trivial (fun hHeld => ?_)
         clear hK K
         refine norm_ (a' := ?_) ?_ ?_
         rotate_left
         ·show Act.put _ (some 42) _ = _
          simp only [Act.put, sT, s0, sS, i64_w, i32_w]
          rfl
         refine one_ (i := 7) (N := some 46) (tf 9 255) rfl rfl (one_of HT_.out (by kernel_rfl)) (by decide) (fun K hK => ?_)
         refine Kd.R_append_rows_step Kd.string (w0 := w0) w0.heap.size (by rfl) (.tmp 42) (.tmp 45) 29 9 (.string ⟨#[]⟩) 16 rfl Try.underlying29 info9 rfl (by decide) (by omega) v168 y167 y170 _ _ _ (fun k_ => (P0_ k_ ∨ w.heap.size ≤ k_) ∧ some k_ ≠ (.slice Ao32 l0.length co32 : Value).ownBlock) (fun _ => False) rfl rfl ?aO ?aR (fun _ _ h => h) (fun _ h => h.elim) ?aF ?aB ?aS ?aL ?_
         (case aR => repeat (first | exact (zf7 HR173.out) | (with_reducible refine Kd.C_alloc ?_ _) | (with_reducible refine Kd.C_drewN ?_ _) | (with_reducible refine Kd.C_drew ?_)))
         (case aB => exact qB)
         (case aF => exact (fun k_ hk => ⟨(.inr (Nat.le_trans zf6 hk)), Kd.fresh' (Kd.R_lt (zf1 HO_0.out)) k_ hk⟩))
         (case aO => exact (zf1 HO169.out))
         (case aS => exact (below_size qB))
         (case aL => have := LMc31.out; omega)
         intro v175 w40 ho hb hg hat
         rw [← Ny174.out] at ho
         replace HB := Aside0.mk (hb)
         replace HK := Aside0.mk (Kept.of_grown (S := (fun k_ => P0_ k_)) hg zf2 (fun k_ e_ => (HO169.out.1 k_ e_).1))
         replace HR163 := Aside0.mk ((show Kd.C Kd.string w40 Ao32 y160.length y160 from zf12))
         replace HR173 := Aside0.mk ((show Kd.C Kd.string w40 A38 y170.length y170 from zf13))
         replace HO_0 := Aside0.mk (Kd.R_after (ok := (fun k_ => (P0_ k_ ∨ w.heap.size ≤ k_))) (zf1 HO_0.out) hg hat)
         have HO176 := Aside0.mk (ho)
         clear HO169
         clear ho hb hg hat
         refine hK.out _ _ trivial (fun hHeld => ?_)
         clear hK K
         refine norm_ (a' := ?_) ?_ ?_
         rotate_left
         ·show Act.put _ (some 46) _ = _
          simp only [Act.put, sT, s0, sS, i64_w, i32_w]
          rfl
         refine qA 8 4 (tf 9 511) ?_
         refine done_ (done_of HT_.out (by kernel_rfl)) ?_
         try go_wp2
         go_ret
         exact ⟨_, zf5, zf11 HO176.out, zf3, zf2⟩
        ·rw [if_neg c31] at H
         exact absurd H (by simp)
       ·rw [if_neg c28] at H
        exact absurd H (by simp)
      ·rw [if_neg c27] at H
       exact absurd H (by simp)
     ·rw [if_neg c26] at H
      exact absurd H (by simp)
    ·rw [if_neg c25] at H
     exact absurd H (by simp)

/-! ### spec_l3Has: function 60 -/
def spec_l3Has.l0 : Nat → List ByteArray → ByteArray → Int → Option (Bool)
 | 0, _, _, _ => none
 | k + 1, x0, x1, x5 => if x5 < (x0.length : Int) then (if 0 ≤ x5 then (if (rdOf ByteArray.empty x0 x5).toList = x1.toList then (some true) else (spec_l3Has.l0 k x0 x1 (wrap64 (x5 + 1)))) else (none)) else (some false)
def spec_l3Has.f (k : Nat) (l0 : List ByteArray) (a1 : ByteArray) : Option (Bool) := spec_l3Has.l0 k l0 a1 0
theorem spec_l3Has.mono_l : ∀ k, (∀ y0 y1 y2, LeO (spec_l3Has.l0 k y0 y1 y2) (spec_l3Has.l0 (k + 1) y0 y1 y2))
 | 0 => fun _ _ _ r h => by simp [spec_l3Has.l0] at h
 | k + 1 => by
  have ih0 := spec_l3Has.mono_l k
  ·intro y0 y1 y2
   unfold spec_l3Has.l0
   repeat' first
   | (with_reducible exact ih0 _ _ _)
   | (with_reducible exact LeO.refl _)
   | (with_reducible exact LeO.none _)
   | (with_reducible refine LeO.ite ?_ ?_)
   | (with_reducible refine LeO.bind ?_ (fun _ => ?_))
   | exact ih0 _ _ _
   | exact LeO.none _
   | refine LeO.ite ?_ ?_
   | refine LeO.bind ?_ (fun _ => ?_)
theorem spec_l3Has.mono : ∀ a0 a1 k, LeO (spec_l3Has.f k a0 a1) (spec_l3Has.f (k + 1) a0 a1) := by
 intro a0 a1 k
 have ih0 := spec_l3Has.mono_l k
 unfold spec_l3Has.f
 repeat' first
   | (with_reducible exact ih0 _ _ _)
   | (with_reducible exact LeO.refl _)
   | (with_reducible exact LeO.none _)
   | (with_reducible refine LeO.ite ?_ ?_)
   | (with_reducible refine LeO.bind ?_ (fun _ => ?_))
   | exact ih0 _ _ _
   | exact LeO.none _
   | refine LeO.ite ?_ ?_
   | refine LeO.bind ?_ (fun _ => ?_)
set_option maxHeartbeats 8000000 in
set_option maxRecDepth 100000 in
theorem spec_l3Has.calls (k : Nat) (A0 : Option Addr) (c0 : Nat) (l0 : List ByteArray) (a1 : ByteArray) (r : Bool) (w : World) (hr0 : Kd.C Kd.string w A0 l0.length l0) (hc0 : l0.length ≤ c0) (h : spec_l3Has.f k l0 a1 = some r) :
  Calls Try.prog 60 #[.slice A0 l0.length c0, .string a1] w fun e w' => e = .returned (.bool r) ∧ Drawn0 w w' := by
 have HR0 := Aside0.mk hr0
 have HC0 := Aside0.mk hc0
 clear hr0 hc0
 have H : (spec_l3Has.l0 k l0 a1 0) = some r := h
 clear h
 have H' := Aside0.mk H
 clear H
 go_enter Try.func60, Try.ntmps60
 go_wp2
 go_loopg [5] k (fun kq v5 w' => ∃ (x5_1 : Int), v5 = .int .i64 x5_1 ∧ Aside0 (spec_l3Has.l0 kq l0 a1 x5_1 = some r) ∧ Aside0 (kq ≤ k) ∧ Drawn0 w w')
 case atStart => exact ⟨(0), zf0, H', ⟨Nat.le_refl _⟩, zf14⟩
 case round =>
  clear H'
  try clear p2
  obtain ⟨x5_1, rfl, HA, HK1, ⟨m1, rfl⟩⟩ := hrel
  cases gk with
  | zero => exact absurd HA.out (by simp [spec_l3Has.l0])
  | succ k1 =>
   have H := HA.out
   clear HA
   simp only [spec_l3Has.l0] at H
   by_cases c3 : x5_1 < (l0.length : Int)
   ·rw [if_pos c3] at H
    have c3b0 : decide (x5_1 < (l0.length : Int)) = true := decide_eq_true c3
    clear c3
    by_cases c4 : 0 ≤ x5_1
    ·rw [if_pos c4] at H
     have c4b0 : decide (0 ≤ x5_1) = true := decide_eq_true c4
     clear c4
     by_cases c5 : (rdOf ByteArray.empty l0 x5_1).toList = a1.toList
     ·rw [if_pos c5] at H
      have c5b0 : ((rdOf ByteArray.empty l0 x5_1).toList == a1.toList) = true := beq_iff_eq.mpr c5
      have c5b1 : ((rdOf ByteArray.empty l0 x5_1).toList != a1.toList) = false := bne_eq_false_iff_eq.mpr c5
      clear c5
      obtain rfl := Option.some.inj H
      have p177 : 0 ≤ (x5_1 : Int) := of_decide_eq_true zf4
      have q177 : x5_1 < (l0.length : Int) := of_decide_eq_true zf4
      obtain ⟨ad177, e177, hx177_0⟩ := Kd.at_string HR0.out x5_1 p177 q177
      cases e177
      replace p177 := eq_true p177
      replace q177 := eq_true q177
      go_wp2
      go_ret
      exact ⟨zf0, zf14⟩
     ·rw [if_neg c5] at H
      have c5b0 : ((rdOf ByteArray.empty l0 x5_1).toList == a1.toList) = false := beq_eq_false_iff_ne.mpr c5
      have c5b1 : ((rdOf ByteArray.empty l0 x5_1).toList != a1.toList) = true := bne_iff_ne.mpr c5
      have H' := Aside0.mk H
      clear H
      have p177 : 0 ≤ (x5_1 : Int) := of_decide_eq_true zf4
      have q177 : x5_1 < (l0.length : Int) := of_decide_eq_true zf4
      obtain ⟨ad177, e177, hx177_0⟩ := Kd.at_string HR0.out x5_1 p177 q177
      cases e177
      replace p177 := eq_true p177
      replace q177 := eq_true q177
      go_wp2
      go_roundg k1
      case measure => have := HK1.out; omega
      case rel => exact ⟨(wrap64 (x5_1 + 1)), zf0, H', ⟨by have := HK1.out; omega⟩, zf14⟩
    ·rw [if_neg c4] at H
     exact absurd H (by simp)
   ·rw [if_neg c3] at H
    have c3b0 : decide (x5_1 < (l0.length : Int)) = false := decide_eq_false c3
    clear c3
    obtain rfl := Option.some.inj H
    go_wp2
    go_ret
    exact ⟨zf0, zf14⟩

/-! ### spec_l18Find: function 61 -/
def spec_l18Find.l0 : Nat → List (S55) → ByteArray → Int → Option (Int)
 | 0, _, _, _ => none
 | k + 1, x0, x1, x5 => if x5 < (x0.length : Int) then (if 0 ≤ x5 then (if ((rd_T55 x0 x5).f0).toList = x1.toList then (some x5) else (spec_l18Find.l0 k x0 x1 (wrap64 (x5 + 1)))) else (none)) else (some (-1))
def spec_l18Find.f (k : Nat) (l0 : List (S55)) (a1 : ByteArray) : Option (Int) := spec_l18Find.l0 k l0 a1 0
theorem spec_l18Find.mono_l : ∀ k, (∀ y0 y1 y2, LeO (spec_l18Find.l0 k y0 y1 y2) (spec_l18Find.l0 (k + 1) y0 y1 y2))
 | 0 => fun _ _ _ r h => by simp [spec_l18Find.l0] at h
 | k + 1 => by
  have ih0 := spec_l18Find.mono_l k
  ·intro y0 y1 y2
   unfold spec_l18Find.l0
   repeat' first
   | (with_reducible exact ih0 _ _ _)
   | (with_reducible exact LeO.refl _)
   | (with_reducible exact LeO.none _)
   | (with_reducible refine LeO.ite ?_ ?_)
   | (with_reducible refine LeO.bind ?_ (fun _ => ?_))
   | exact ih0 _ _ _
   | exact LeO.none _
   | refine LeO.ite ?_ ?_
   | refine LeO.bind ?_ (fun _ => ?_)
theorem spec_l18Find.mono : ∀ a0 a1 k, LeO (spec_l18Find.f k a0 a1) (spec_l18Find.f (k + 1) a0 a1) := by
 intro a0 a1 k
 have ih0 := spec_l18Find.mono_l k
 unfold spec_l18Find.f
 repeat' first
   | (with_reducible exact ih0 _ _ _)
   | (with_reducible exact LeO.refl _)
   | (with_reducible exact LeO.none _)
   | (with_reducible refine LeO.ite ?_ ?_)
   | (with_reducible refine LeO.bind ?_ (fun _ => ?_))
   | exact ih0 _ _ _
   | exact LeO.none _
   | refine LeO.ite ?_ ?_
   | refine LeO.bind ?_ (fun _ => ?_)
set_option maxHeartbeats 8000000 in
set_option maxRecDepth 100000 in
theorem spec_l18Find.calls (k : Nat) (A0 : Option Addr) (c0 : Nat) (l0 : List (S55)) (a1 : ByteArray) (r : Int) (w : World) (hr0 : Kd.C k55 w A0 l0.length l0) (hc0 : l0.length ≤ c0) (h : spec_l18Find.f k l0 a1 = some r) :
  Calls Try.prog 61 #[.slice A0 l0.length c0, .string a1] w fun e w' => e = .returned (.int .i64 r) ∧ Drawn0 w w' := by
 have HR0 := Aside0.mk hr0
 have HC0 := Aside0.mk hc0
 clear hr0 hc0
 have H : (spec_l18Find.l0 k l0 a1 0) = some r := h
 clear h
 have H' := Aside0.mk H
 clear H
 go_enter Try.func61, Try.ntmps61
 go_wp2
 go_loopg [5] k (fun kq v5 w' => ∃ (x5_1 : Int), v5 = .int .i64 x5_1 ∧ Aside0 (spec_l18Find.l0 kq l0 a1 x5_1 = some r) ∧ Aside0 (kq ≤ k) ∧ Drawn0 w w')
 case atStart => exact ⟨(0), zf0, H', ⟨Nat.le_refl _⟩, zf14⟩
 case round =>
  clear H'
  try clear p2
  obtain ⟨x5_1, rfl, HA, HK1, ⟨m1, rfl⟩⟩ := hrel
  cases gk with
  | zero => exact absurd HA.out (by simp [spec_l18Find.l0])
  | succ k1 =>
   have H := HA.out
   clear HA
   simp only [spec_l18Find.l0] at H
   by_cases c3 : x5_1 < (l0.length : Int)
   ·rw [if_pos c3] at H
    have c3b0 : decide (x5_1 < (l0.length : Int)) = true := decide_eq_true c3
    clear c3
    by_cases c4 : 0 ≤ x5_1
    ·rw [if_pos c4] at H
     have c4b0 : decide (0 ≤ x5_1) = true := decide_eq_true c4
     clear c4
     by_cases c5 : ((rd_T55 l0 x5_1).f0).toList = a1.toList
     ·rw [if_pos c5] at H
      have c5b0 : (((rd_T55 l0 x5_1).f0).toList == a1.toList) = true := beq_iff_eq.mpr c5
      have c5b1 : (((rd_T55 l0 x5_1).f0).toList != a1.toList) = false := bne_eq_false_iff_eq.mpr c5
      clear c5
      obtain rfl := Option.some.inj H
      have p178 : 0 ≤ (x5_1 : Int) := of_decide_eq_true zf4
      have q178 : x5_1 < (l0.length : Int) := of_decide_eq_true zf4
      obtain ⟨ad178, A178_1, c178_1, A178_2, c178_2, e178, hx178_0, hx178_1, hx178_2, hx178_3, hx178_4, hl178_1, hi178_1, hl178_2, hi178_2⟩ := at_T55 HR0.out x5_1 p178 q178
      cases e178
      have HR178_1 := Aside0.mk hi178_1
      have HC178_1 := Aside0.mk hl178_1
      clear hi178_1 hl178_1
      have HR178_2 := Aside0.mk hi178_2
      have HC178_2 := Aside0.mk hl178_2
      clear hi178_2 hl178_2
      replace p178 := eq_true p178
      replace q178 := eq_true q178
      go_wp2
      go_ret
      exact ⟨zf0, zf14⟩
     ·rw [if_neg c5] at H
      have c5b0 : (((rd_T55 l0 x5_1).f0).toList == a1.toList) = false := beq_eq_false_iff_ne.mpr c5
      have c5b1 : (((rd_T55 l0 x5_1).f0).toList != a1.toList) = true := bne_iff_ne.mpr c5
      have H' := Aside0.mk H
      clear H
      have p178 : 0 ≤ (x5_1 : Int) := of_decide_eq_true zf4
      have q178 : x5_1 < (l0.length : Int) := of_decide_eq_true zf4
      obtain ⟨ad178, A178_1, c178_1, A178_2, c178_2, e178, hx178_0, hx178_1, hx178_2, hx178_3, hx178_4, hl178_1, hi178_1, hl178_2, hi178_2⟩ := at_T55 HR0.out x5_1 p178 q178
      cases e178
      have HR178_1 := Aside0.mk hi178_1
      have HC178_1 := Aside0.mk hl178_1
      clear hi178_1 hl178_1
      have HR178_2 := Aside0.mk hi178_2
      have HC178_2 := Aside0.mk hl178_2
      clear hi178_2 hl178_2
      replace p178 := eq_true p178
      replace q178 := eq_true q178
      go_wp2
      go_roundg k1
      case measure => have := HK1.out; omega
      case rel => exact ⟨(wrap64 (x5_1 + 1)), zf0, H', ⟨by have := HK1.out; omega⟩, zf14⟩
    ·rw [if_neg c4] at H
     exact absurd H (by simp)
   ·rw [if_neg c3] at H
    have c3b0 : decide (x5_1 < (l0.length : Int)) = false := decide_eq_false c3
    clear c3
    obtain rfl := Option.some.inj H
    go_wp2
    go_ret
    exact ⟨zf0, zf14⟩

end Go.Proofs.Ytnahkojlamficaa.PFnFailing
