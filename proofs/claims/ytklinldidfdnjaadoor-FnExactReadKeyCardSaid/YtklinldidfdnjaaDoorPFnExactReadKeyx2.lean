-- Laid by a program of this session: a turned copy of the kit's print, with contracts by hand beside.
import Derived.Test.YtklinldidfdnjaaDoorPFnExactReadKeyx0
import Derived.Test.YtklinldidfdnjaaDoorPFnExactReadKeyx1
namespace Go.Proofs.YtklinldidfdnjaaDoor.PFnExactReadKey
open Go.RowKit Go.Proofs.YtklinldidfdnjaaDoorW.PrintWords Go.Proofs.YtklinldidfdnjaaDoorW.PrintLast Go.Proofs.YtklinldidfdnjaaDoorW.PrintMore
attribute [local go_sem] max2_int min2_int max_two min_two max_three min_three max_four min_four   -- for this text's walks alone
set_option linter.unusedVariables false
set_option linter.unusedSimpArgs false

/-! ### spec_ReadKey: function 10 -/
def spec_ReadKey.j0 : Nat → ByteArray → Int → Bool → Option (ByteArray × Int × Int × Bool)
  | 0, _, _, _ => none
  | k + 1, x0, x4, x26 => if x26 = true then (some ((⟨#[]⟩ : ByteArray), 0, 0, false)) else (if 0 ≤ (wrap64 (x4 + 1)) then (if (wrap64 (x4 + 1)) ≤ (wrap64 (x4 + 14)) then (if (wrap64 (x4 + 14)) ≤ (x0.size : Int) then ((spec_ReadWord32.f k (x0.extract ((wrap64 (x4 + 1)) : Int).toNat ((wrap64 (x4 + 14)) : Int).toNat)).bind fun bt105 => (if 0 ≤ (wrap64 (x4 + 15)) then (if (wrap64 (x4 + 15)) ≤ (x0.size : Int) then ((spec_ReadWord32.f k (x0.extract ((wrap64 (x4 + 15)) : Int).toNat x0.size)).bind fun bt107 => (if bt105.2 = true then (if bt107.2 = true then (if 0 ≤ x4 then (if x4 ≤ (x0.size : Int) then ((spec_NameOk.f k (x0.extract 0 (x4 : Int).toNat)).bind fun t109 => (if t109 = true then (some (x0.extract 0 (x4 : Int).toNat, bt105.1, bt107.1, true)) else (some ((⟨#[]⟩ : ByteArray), 0, 0, false)))) else (none)) else (none)) else (some ((⟨#[]⟩ : ByteArray), 0, 0, false))) else (some ((⟨#[]⟩ : ByteArray), 0, 0, false)))) else (none)) else (none))) else (none)) else (none)) else (none))
def spec_ReadKey.f (k : Nat) (a0 : ByteArray) : Option (ByteArray × Int × Int × Bool) := if (wrap64 ((a0.size : Int) - 28)) < 1 then (spec_ReadKey.j0 k a0 (wrap64 ((a0.size : Int) - 28)) true) else (if 0 ≤ (wrap64 ((a0.size : Int) - 28)) then (if (wrap64 ((a0.size : Int) - 28)) < (a0.size : Int) then (if (bt a0 (wrap64 ((a0.size : Int) - 28))) = 58 then (if 0 ≤ (wrap64 ((wrap64 ((a0.size : Int) - 28)) + 14)) then (if (wrap64 ((wrap64 ((a0.size : Int) - 28)) + 14)) < (a0.size : Int) then (spec_ReadKey.j0 k a0 (wrap64 ((a0.size : Int) - 28)) ((bt a0 (wrap64 ((wrap64 ((a0.size : Int) - 28)) + 14))) != 58)) else (none)) else (none)) else (spec_ReadKey.j0 k a0 (wrap64 ((a0.size : Int) - 28)) true)) else (none)) else (none))
theorem spec_ReadKey.mono_l : ∀ k, (∀ y0 y1 y2, LeO (spec_ReadKey.j0 k y0 y1 y2) (spec_ReadKey.j0 (k + 1) y0 y1 y2))
  | 0 => fun _ _ _ r h => by simp [spec_ReadKey.j0] at h
  | k + 1 => by
    have ih0 := spec_ReadKey.mono_l k
    · intro y0 y1 y2
      unfold spec_ReadKey.j0
      repeat' first
      | (with_reducible exact ih0 _ _ _)
      | (with_reducible exact spec_NameOk.mono _ _)
      | (with_reducible exact spec_ReadWord32.mono _ _)
      | (with_reducible exact LeO.refl _)
      | (with_reducible exact LeO.none _)
      | (with_reducible refine LeO.ite ?_ ?_)
      | (with_reducible refine LeO.bind ?_ (fun _ => ?_))
      | exact ih0 _ _ _
      | exact spec_NameOk.mono _ _
      | exact spec_ReadWord32.mono _ _
      | exact LeO.none _
      | refine LeO.ite ?_ ?_
      | refine LeO.bind ?_ (fun _ => ?_)
theorem spec_ReadKey.mono : ∀ a0 k, LeO (spec_ReadKey.f k a0) (spec_ReadKey.f (k + 1) a0) := by
  intro a0 k
  have ih0 := spec_ReadKey.mono_l k
  unfold spec_ReadKey.f
  repeat' first
      | (with_reducible exact ih0 _ _ _)
      | (with_reducible exact spec_NameOk.mono _ _)
      | (with_reducible exact spec_ReadWord32.mono _ _)
      | (with_reducible exact LeO.refl _)
      | (with_reducible exact LeO.none _)
      | (with_reducible refine LeO.ite ?_ ?_)
      | (with_reducible refine LeO.bind ?_ (fun _ => ?_))
      | exact ih0 _ _ _
      | exact spec_NameOk.mono _ _
      | exact spec_ReadWord32.mono _ _
      | exact LeO.none _
      | refine LeO.ite ?_ ?_
      | refine LeO.bind ?_ (fun _ => ?_)
set_option maxHeartbeats 8000000 in
set_option maxRecDepth 100000 in
theorem spec_ReadKey.calls (k : Nat) (a0 : ByteArray) (r1 : ByteArray) (r2 : Int) (r3 : Int) (r4 : Bool) (w : World) (h : spec_ReadKey.f k a0 = some (r1, r2, r3, r4)) :
    Calls Tryd.prog 10 #[.string a0] w fun e w' => e = .returned (.tuple #[.agg #[.string r1, .int .u64 r2, .int .u64 r3], .bool r4]) ∧ Below w.heap.size w w' := by
  have hu24 := Tryd.underlying24
  have HB := Aside0.mk (Below.refl w.heap.size w)
  have H : (if (wrap64 ((a0.size : Int) - 28)) < 1 then (spec_ReadKey.j0 k a0 (wrap64 ((a0.size : Int) - 28)) true) else (if 0 ≤ (wrap64 ((a0.size : Int) - 28)) then (if (wrap64 ((a0.size : Int) - 28)) < (a0.size : Int) then (if (bt a0 (wrap64 ((a0.size : Int) - 28))) = 58 then (if 0 ≤ (wrap64 ((wrap64 ((a0.size : Int) - 28)) + 14)) then (if (wrap64 ((wrap64 ((a0.size : Int) - 28)) + 14)) < (a0.size : Int) then (spec_ReadKey.j0 k a0 (wrap64 ((a0.size : Int) - 28)) ((bt a0 (wrap64 ((wrap64 ((a0.size : Int) - 28)) + 14))) != 58)) else (none)) else (none)) else (spec_ReadKey.j0 k a0 (wrap64 ((a0.size : Int) - 28)) true)) else (none)) else (none))) = some (r1, r2, r3, r4) := h
  clear h
  have HC2 := Aside0.mk H
  clear H
  go_enter Tryd.func10, Tryd.ntmps10
  go_upto_region 2 with (first | ((with_reducible refine gate_dst (N := 2) rfl ?_); refine box_event ?hg (N := 2) ?hd (cs := #[.string (⟨#[]⟩ : ByteArray), .int .u64 0, .int .u64 0]) (t := 24) ?hr ?_; (case hd => rfl); (case hg => rfl); (case hr => first | (go_simp; done) | (go_simp; rfl)); intro gb104 hg w3 hbox hb; have n0_ := Aside0.mk (below_step (by repeat (first | (with_reducible first | exact HB.out | apply below_alloc | apply pw_below_drewN | apply below_drew1) | exact HB.out)) hb); have n1_ := Aside0.mk (hbox); have n2_ := Aside0.mk ((by rw [hg]; exact (below_size (by repeat (first | (with_reducible first | exact HB.out | apply below_alloc | apply pw_below_drewN | apply below_drew1) | exact HB.out))) : w.heap.size ≤ gb104)); have n3_ := Aside0.mk ((by rw [hg]; exact (below_size (by repeat (first | (with_reducible first | exact HB.out | apply below_alloc | apply pw_below_drewN | apply below_drew1) | exact HB.out))) : w.heap.size ≤ gb104)); clear HB; have HB := n0_; have BK104 := n1_; have GW104 := n2_; have GE104 := n3_; clear n0_ n1_ n2_ n3_; clear hb hbox hg))
  (try simp only [Act.put, List.setIfInBounds_toArray, List.set_cons_zero, List.set_cons_succ])
  go_cut [26] (fun v26 wc => ∃ (kq : Nat) (x26_1 : Bool), v26 = .bool x26_1 ∧ Aside0 (spec_ReadKey.j0 kq a0 (wrap64 ((a0.size : Int) - 28)) x26_1 = some (r1, r2, r3, r4)) ∧ Aside0 (kq ≤ k) ∧ Aside0 (wc.heap[gb104]? = some (.cells #[.string (⟨#[]⟩ : ByteArray), .int .u64 0, .int .u64 0] 24 (0, 0))) ∧ Aside0 (Below w.heap.size w wc))
  case first =>
    have H := HC2.out
    clear HC2
    by_cases c4 : (wrap64 ((a0.size : Int) - 28)) < 1
    · rw [if_pos c4] at H
      have c4b0 : decide ((wrap64 ((a0.size : Int) - 28)) < 1) = true := decide_eq_true c4
      clear c4
      (first | rw [c4b0] | (simp only [i64_w, i32_w]; rw [c4b0]) | skip)
      have H' := Aside0.mk H
      clear H
      go_wp2
      go_meet
      case rel => exact ⟨_, (true), (by first | rfl | (simp; done) | (simp [*]; done)), H', ⟨by first | omega | exact Nat.le_refl _⟩, ⟨by (with_reducible repeat (first | refine blk_drewN ?_ _ | refine blk_drew ?_ | refine blk_alloc ?_ _)); exact BK104.out⟩, ⟨by repeat (first | (with_reducible first | exact HB.out | apply below_alloc | apply pw_below_drewN | apply below_drew1 | refine below_set ?_ GE104.out) | exact HB.out)⟩⟩
    · rw [if_neg c4] at H
      have c4b0 : decide ((wrap64 ((a0.size : Int) - 28)) < 1) = false := decide_eq_false c4
      clear c4
      (first | rw [c4b0] | (simp only [i64_w, i32_w]; rw [c4b0]) | skip)
      obtain ⟨ji5, hji5⟩ : ∃ j_ : Int, (wrap64 ((a0.size : Int) - 28)) = j_ := ⟨_, rfl⟩
      replace H : (if 0 ≤ (ji5) then (if (ji5) < (a0.size : Int) then (if (bt a0 (ji5)) = 58 then (if 0 ≤ (wrap64 ((ji5) + 14)) then (if (wrap64 ((ji5) + 14)) < (a0.size : Int) then (spec_ReadKey.j0 k a0 ji5 ((bt a0 (wrap64 ((ji5) + 14))) != 58)) else (none)) else (none)) else (spec_ReadKey.j0 k a0 ji5 true)) else (none)) else (none)) = some (r1, r2, r3, r4) := by first | (rw [hji5] at H; exact H) | (simp only [hji5] at H ⊢; exact H)
      (try rw [hji5] at c4b0)
      have hji5w : (IntKind.i64.wrap ((a0.size : Int) - 28)) = ji5 := (i64_w _).trans hji5
      by_cases c6 : 0 ≤ (ji5)
      · rw [if_pos c6] at H
        have c6b0 : decide (0 ≤ (ji5)) = true := decide_eq_true c6
        clear c6
        by_cases c7 : (ji5) < (a0.size : Int)
        · rw [if_pos c7] at H
          have c7b0 : decide ((ji5) < (a0.size : Int)) = true := decide_eq_true c7
          clear c7
          by_cases c9 : (bt a0 (ji5)) = 58
          · rw [if_pos c9] at H
            have c9b0 : ((bt a0 (ji5)) == 58) = true := beq_iff_eq.mpr c9
            have c9b1 : ((bt a0 (ji5)) != 58) = false := bne_eq_false_iff_eq.mpr c9
            clear c9
            obtain ⟨ji10, hji10⟩ : ∃ j_ : Int, (wrap64 ((ji5) + 14)) = j_ := ⟨_, rfl⟩
            replace H : (if 0 ≤ (ji10) then (if (ji10) < (a0.size : Int) then (spec_ReadKey.j0 k a0 ji5 ((bt a0 (ji10)) != 58)) else (none)) else (none)) = some (r1, r2, r3, r4) := by first | (rw [hji10] at H; exact H) | (simp only [hji10] at H ⊢; exact H)
            have hji10w : (IntKind.i64.wrap ((ji5) + 14)) = ji10 := (i64_w _).trans hji10
            by_cases c11 : 0 ≤ (ji10)
            · rw [if_pos c11] at H
              have c11b0 : decide (0 ≤ (ji10)) = true := decide_eq_true c11
              clear c11
              by_cases c12 : (ji10) < (a0.size : Int)
              · rw [if_pos c12] at H
                have c12b0 : decide ((ji10) < (a0.size : Int)) = true := decide_eq_true c12
                clear c12
                have H' := Aside0.mk H
                clear H
                have p8 : 0 ≤ ((ji5) : Int) := of_decide_eq_true (by first | (with_reducible assumption) | assumption)
                have q8 : (ji5) < (a0.size : Int) := of_decide_eq_true (by first | (with_reducible assumption) | assumption)
                have hx8 := bt_at a0 (ji5)
                replace p8 := eq_true p8
                replace q8 := eq_true q8
                have p13 : 0 ≤ ((ji10) : Int) := of_decide_eq_true (by first | (with_reducible assumption) | assumption)
                have q13 : (ji10) < (a0.size : Int) := of_decide_eq_true (by first | (with_reducible assumption) | assumption)
                have hx13 := bt_at a0 (ji10)
                replace p13 := eq_true p13
                replace q13 := eq_true q13
                go_wp2
                go_meet
                case rel => exact ⟨_, (((bt a0 (ji10)) != 58)), (by first | rfl | (simp; done) | (simp only [← hji10] <;> (first | rfl | simp)) | (simp [*]; done)), (by first | exact H' | (rw [hji5]; exact H') | (rw [hji10]; exact H')), ⟨by first | omega | exact Nat.le_refl _⟩, ⟨by (with_reducible repeat (first | refine blk_drewN ?_ _ | refine blk_drew ?_ | refine blk_alloc ?_ _)); exact BK104.out⟩, ⟨by repeat (first | (with_reducible first | exact HB.out | apply below_alloc | apply pw_below_drewN | apply below_drew1 | refine below_set ?_ GE104.out) | exact HB.out)⟩⟩
              · rw [if_neg c12] at H
                exact absurd H (by simp)
            · rw [if_neg c11] at H
              exact absurd H (by simp)
          · rw [if_neg c9] at H
            have c9b0 : ((bt a0 (ji5)) == 58) = false := beq_eq_false_iff_ne.mpr c9
            have c9b1 : ((bt a0 (ji5)) != 58) = true := bne_iff_ne.mpr c9
            have H' := Aside0.mk H
            clear H
            have p8 : 0 ≤ ((ji5) : Int) := of_decide_eq_true (by first | (with_reducible assumption) | assumption)
            have q8 : (ji5) < (a0.size : Int) := of_decide_eq_true (by first | (with_reducible assumption) | assumption)
            have hx8 := bt_at a0 (ji5)
            replace p8 := eq_true p8
            replace q8 := eq_true q8
            go_wp2
            go_meet
            case rel => exact ⟨_, (true), (by first | rfl | (simp; done) | (simp [*]; done)), (by first | exact H' | (rw [hji5]; exact H') | (rw [hji10]; exact H')), ⟨by first | omega | exact Nat.le_refl _⟩, ⟨by (with_reducible repeat (first | refine blk_drewN ?_ _ | refine blk_drew ?_ | refine blk_alloc ?_ _)); exact BK104.out⟩, ⟨by repeat (first | (with_reducible first | exact HB.out | apply below_alloc | apply pw_below_drewN | apply below_drew1 | refine below_set ?_ GE104.out) | exact HB.out)⟩⟩
        · rw [if_neg c7] at H
          exact absurd H (by simp)
      · rw [if_neg c6] at H
        exact absurd H (by simp)
  case rest =>
    clear HC2
    try clear c1
    try clear p1
    try clear q1
    try clear hx1
    try clear p2
    try clear c4
    try clear c4b0
    try clear c6
    try clear c6b0
    try clear p6
    try clear c7
    try clear c7b0
    try clear p8
    try clear q8
    try clear hx8
    try clear c9
    try clear c9b0
    try clear c9b1
    try clear c10
    try clear c11
    try clear c11b0
    try clear c12
    try clear c12b0
    try clear p13
    try clear q13
    try clear hx13
    try clear p13
    try clear p8
    try clear q13
    try clear q8
    obtain ⟨kq, x26_1, rfl, HA, HJ1, BK104, HB⟩ := hcut
    cases kq with
    | zero => exact absurd HA.out (by simp [spec_ReadKey.j0])
    | succ kj1 =>
      have H := HA.out
      clear HA
      simp only [spec_ReadKey.j0] at H
      by_cases c14 : x26_1 = true
      · subst c14
        have H1 : (some ((⟨#[]⟩ : ByteArray), 0, 0, false)) = some (r1, r2, r3, r4) := by rw [if_pos rfl] at H; exact H
        clear H
        have H := H1
        clear H1
        simp only [Option.some.injEq, Prod.mk.injEq] at H
        obtain ⟨rfl, rfl, rfl, rfl⟩ := H
        have hcz15_0 : wc.cell? ⟨gb104, 0, none⟩ = some (.string (⟨#[]⟩ : ByteArray)) := (blk_cell BK104.out 0).trans rfl
        have hcz15_1 : wc.cell? ⟨gb104, 1, none⟩ = some (.int .u64 0) := (blk_cell BK104.out 1).trans rfl
        have hcz15_2 : wc.cell? ⟨gb104, 2, none⟩ = some (.int .u64 0) := (blk_cell BK104.out 2).trans rfl
        have hfz15_0 := blk_frozen BK104.out 0
        have hfz15_1 := blk_frozen BK104.out 1
        have hfz15_2 := blk_frozen BK104.out 2
        go_wp2
        refine bodyPost_ret (results_ct rfl _ _ gb104 24 #[.string (⟨#[]⟩ : ByteArray), .int .u64 0, .int .u64 0] (0, 0) _ rfl (by (with_reducible repeat (first | refine blk_drewN ?_ _ | refine blk_drew ?_ | refine blk_alloc ?_ _)); refine blk_put (cs := #[.string (⟨#[]⟩ : ByteArray), .int .u64 0, .int .u64 0]) ?_ 2 _ rfl; (with_reducible repeat (first | refine blk_drewN ?_ _ | refine blk_drew ?_ | refine blk_alloc ?_ _)); refine blk_put (cs := #[.string (⟨#[]⟩ : ByteArray), .int .u64 0, .int .u64 0]) ?_ 1 _ rfl; (with_reducible repeat (first | refine blk_drewN ?_ _ | refine blk_drew ?_ | refine blk_alloc ?_ _)); refine blk_put (cs := #[.string (⟨#[]⟩ : ByteArray), .int .u64 0, .int .u64 0]) ?_ 0 _ rfl; (with_reducible repeat (first | refine blk_drewN ?_ _ | refine blk_drew ?_ | refine blk_alloc ?_ _)); exact BK104.out) Tryd.underlying24 rfl (by kernel_rfl)) rfl ?_
        exact ⟨by first | rfl | (simp [errW_none, errW_some] <;> rfl) | (simp [*, errW_none, errW_some] <;> rfl), by repeat (first | (with_reducible first | exact HB.out | apply below_alloc | apply pw_below_drewN | apply below_drew1 | refine below_set ?_ GE104.out) | exact HB.out)⟩
      · replace c14 := Bool.eq_false_iff.mpr c14
        subst c14
        have H1 : (if 0 ≤ (wrap64 ((wrap64 ((a0.size : Int) - 28)) + 1)) then (if (wrap64 ((wrap64 ((a0.size : Int) - 28)) + 1)) ≤ (wrap64 ((wrap64 ((a0.size : Int) - 28)) + 14)) then (if (wrap64 ((wrap64 ((a0.size : Int) - 28)) + 14)) ≤ (a0.size : Int) then ((spec_ReadWord32.f kj1 (a0.extract ((wrap64 ((wrap64 ((a0.size : Int) - 28)) + 1)) : Int).toNat ((wrap64 ((wrap64 ((a0.size : Int) - 28)) + 14)) : Int).toNat)).bind fun bt105 => (if 0 ≤ (wrap64 ((wrap64 ((a0.size : Int) - 28)) + 15)) then (if (wrap64 ((wrap64 ((a0.size : Int) - 28)) + 15)) ≤ (a0.size : Int) then ((spec_ReadWord32.f kj1 (a0.extract ((wrap64 ((wrap64 ((a0.size : Int) - 28)) + 15)) : Int).toNat a0.size)).bind fun bt107 => (if bt105.2 = true then (if bt107.2 = true then (if 0 ≤ (wrap64 ((a0.size : Int) - 28)) then (if (wrap64 ((a0.size : Int) - 28)) ≤ (a0.size : Int) then ((spec_NameOk.f kj1 (a0.extract 0 ((wrap64 ((a0.size : Int) - 28)) : Int).toNat)).bind fun t109 => (if t109 = true then (some (a0.extract 0 ((wrap64 ((a0.size : Int) - 28)) : Int).toNat, bt105.1, bt107.1, true)) else (some ((⟨#[]⟩ : ByteArray), 0, 0, false)))) else (none)) else (none)) else (some ((⟨#[]⟩ : ByteArray), 0, 0, false))) else (some ((⟨#[]⟩ : ByteArray), 0, 0, false)))) else (none)) else (none))) else (none)) else (none)) else (none)) = some (r1, r2, r3, r4) := by rw [if_neg (show ¬ (false = true) by decide)] at H; exact H
        clear H
        have H := H1
        clear H1
        obtain ⟨ji16, hji16⟩ : ∃ j_ : Int, (wrap64 ((wrap64 ((a0.size : Int) - 28)) + 1)) = j_ := ⟨_, rfl⟩
        replace H : (if 0 ≤ (ji16) then (if (ji16) ≤ (wrap64 ((wrap64 ((a0.size : Int) - 28)) + 14)) then (if (wrap64 ((wrap64 ((a0.size : Int) - 28)) + 14)) ≤ (a0.size : Int) then ((spec_ReadWord32.f kj1 (a0.extract ((ji16) : Int).toNat ((wrap64 ((wrap64 ((a0.size : Int) - 28)) + 14)) : Int).toNat)).bind fun bt105 => (if 0 ≤ (wrap64 ((wrap64 ((a0.size : Int) - 28)) + 15)) then (if (wrap64 ((wrap64 ((a0.size : Int) - 28)) + 15)) ≤ (a0.size : Int) then ((spec_ReadWord32.f kj1 (a0.extract ((wrap64 ((wrap64 ((a0.size : Int) - 28)) + 15)) : Int).toNat a0.size)).bind fun bt107 => (if bt105.2 = true then (if bt107.2 = true then (if 0 ≤ (wrap64 ((a0.size : Int) - 28)) then (if (wrap64 ((a0.size : Int) - 28)) ≤ (a0.size : Int) then ((spec_NameOk.f kj1 (a0.extract 0 ((wrap64 ((a0.size : Int) - 28)) : Int).toNat)).bind fun t109 => (if t109 = true then (some (a0.extract 0 ((wrap64 ((a0.size : Int) - 28)) : Int).toNat, bt105.1, bt107.1, true)) else (some ((⟨#[]⟩ : ByteArray), 0, 0, false)))) else (none)) else (none)) else (some ((⟨#[]⟩ : ByteArray), 0, 0, false))) else (some ((⟨#[]⟩ : ByteArray), 0, 0, false)))) else (none)) else (none))) else (none)) else (none)) else (none)) = some (r1, r2, r3, r4) := by first | (rw [hji16] at H; exact H) | (simp only [hji16] at H ⊢; exact H)
        have hji16w : (IntKind.i64.wrap ((wrap64 ((a0.size : Int) - 28)) + 1)) = ji16 := (i64_w _).trans hji16
        (try rw [hji16] at hji5)
        (try rw [hji16] at hji5w)
        (try rw [hji16] at hji10)
        (try rw [hji16] at hji10w)
        (try rw [hji16] at c4b0)
        (try rw [hji16] at c6b0)
        (try rw [hji16] at c7b0)
        (try rw [hji16] at c9b0)
        (try rw [hji16] at c9b1)
        (try rw [hji16] at c11b0)
        (try rw [hji16] at c12b0)
        (try rw [hji16])
        by_cases c17 : 0 ≤ (ji16)
        · rw [if_pos c17] at H
          have c17b0 := eq_true c17
          have c17b1 : decide (0 ≤ (ji16)) = true := decide_eq_true c17
          clear c17
          by_cases c18 : (ji16) ≤ (wrap64 ((wrap64 ((a0.size : Int) - 28)) + 14))
          · rw [if_pos c18] at H
            have c18b0 := eq_true c18
            have c18b1 : decide ((ji16) ≤ (wrap64 ((wrap64 ((a0.size : Int) - 28)) + 14))) = true := decide_eq_true c18
            by_cases c19 : (wrap64 ((wrap64 ((a0.size : Int) - 28)) + 14)) ≤ (a0.size : Int)
            · rw [if_pos c19] at H
              have c19b0 := eq_true c19
              have c19b1 : decide ((wrap64 ((wrap64 ((a0.size : Int) - 28)) + 14)) ≤ (a0.size : Int)) = true := decide_eq_true c19
              replace H := Option.bind_eq_some_iff.mp H
              obtain ⟨⟨t105, t106⟩, A200, H⟩ := H
              replace H : (if 0 ≤ (wrap64 ((wrap64 ((a0.size : Int) - 28)) + 15)) then (if (wrap64 ((wrap64 ((a0.size : Int) - 28)) + 15)) ≤ (a0.size : Int) then ((spec_ReadWord32.f kj1 (a0.extract ((wrap64 ((wrap64 ((a0.size : Int) - 28)) + 15)) : Int).toNat a0.size)).bind fun bt107 => (if t106 = true then (if bt107.2 = true then (if 0 ≤ (wrap64 ((a0.size : Int) - 28)) then (if (wrap64 ((a0.size : Int) - 28)) ≤ (a0.size : Int) then ((spec_NameOk.f kj1 (a0.extract 0 ((wrap64 ((a0.size : Int) - 28)) : Int).toNat)).bind fun t109 => (if t109 = true then (some (a0.extract 0 ((wrap64 ((a0.size : Int) - 28)) : Int).toNat, t105, bt107.1, true)) else (some ((⟨#[]⟩ : ByteArray), 0, 0, false)))) else (none)) else (none)) else (some ((⟨#[]⟩ : ByteArray), 0, 0, false))) else (some ((⟨#[]⟩ : ByteArray), 0, 0, false)))) else (none)) else (none)) = some (r1, r2, r3, r4) := H
              have A20 := Aside0.mk A200
              clear A200
              obtain ⟨ji21, hji21⟩ : ∃ j_ : Int, (wrap64 ((wrap64 ((a0.size : Int) - 28)) + 15)) = j_ := ⟨_, rfl⟩
              replace H : (if 0 ≤ (ji21) then (if (ji21) ≤ (a0.size : Int) then ((spec_ReadWord32.f kj1 (a0.extract ((ji21) : Int).toNat a0.size)).bind fun bt107 => (if t106 = true then (if bt107.2 = true then (if 0 ≤ (wrap64 ((a0.size : Int) - 28)) then (if (wrap64 ((a0.size : Int) - 28)) ≤ (a0.size : Int) then ((spec_NameOk.f kj1 (a0.extract 0 ((wrap64 ((a0.size : Int) - 28)) : Int).toNat)).bind fun t109 => (if t109 = true then (some (a0.extract 0 ((wrap64 ((a0.size : Int) - 28)) : Int).toNat, t105, bt107.1, true)) else (some ((⟨#[]⟩ : ByteArray), 0, 0, false)))) else (none)) else (none)) else (some ((⟨#[]⟩ : ByteArray), 0, 0, false))) else (some ((⟨#[]⟩ : ByteArray), 0, 0, false)))) else (none)) else (none)) = some (r1, r2, r3, r4) := by first | (rw [hji21] at H; exact H) | (simp only [hji21] at H ⊢; exact H)
              (try rw [hji21] at A20)
              have hji21w : (IntKind.i64.wrap ((wrap64 ((a0.size : Int) - 28)) + 15)) = ji21 := (i64_w _).trans hji21
              (try rw [hji21] at hji5)
              (try rw [hji21] at hji5w)
              (try rw [hji21] at hji10)
              (try rw [hji21] at hji10w)
              (try rw [hji21] at hji16)
              (try rw [hji21] at hji16w)
              (try rw [hji21] at c4b0)
              (try rw [hji21] at c6b0)
              (try rw [hji21] at c7b0)
              (try rw [hji21] at c9b0)
              (try rw [hji21] at c9b1)
              (try rw [hji21] at c11b0)
              (try rw [hji21] at c12b0)
              (try rw [hji21] at c17b0)
              (try rw [hji21] at c17b1)
              (try rw [hji21] at c18b0)
              (try rw [hji21] at c18b1)
              (try rw [hji21] at c19b0)
              (try rw [hji21] at c19b1)
              (try rw [hji21])
              by_cases c22 : 0 ≤ (ji21)
              · rw [if_pos c22] at H
                have c22b0 := eq_true c22
                have c22b1 : decide (0 ≤ (ji21)) = true := decide_eq_true c22
                clear c22
                by_cases c23 : (ji21) ≤ (a0.size : Int)
                · rw [if_pos c23] at H
                  have c23b0 := eq_true c23
                  have c23b1 : decide ((ji21) ≤ (a0.size : Int)) = true := decide_eq_true c23
                  clear c23
                  replace H := Option.bind_eq_some_iff.mp H
                  obtain ⟨⟨t107, t108⟩, A240, H⟩ := H
                  replace H : (if t106 = true then (if t108 = true then (if 0 ≤ (wrap64 ((a0.size : Int) - 28)) then (if (wrap64 ((a0.size : Int) - 28)) ≤ (a0.size : Int) then ((spec_NameOk.f kj1 (a0.extract 0 ((wrap64 ((a0.size : Int) - 28)) : Int).toNat)).bind fun t109 => (if t109 = true then (some (a0.extract 0 ((wrap64 ((a0.size : Int) - 28)) : Int).toNat, t105, t107, true)) else (some ((⟨#[]⟩ : ByteArray), 0, 0, false)))) else (none)) else (none)) else (some ((⟨#[]⟩ : ByteArray), 0, 0, false))) else (some ((⟨#[]⟩ : ByteArray), 0, 0, false))) = some (r1, r2, r3, r4) := H
                  have A24 := Aside0.mk A240
                  clear A240
                  by_cases c25 : t106 = true
                  · subst c25
                    have H1 : (if t108 = true then (if 0 ≤ (wrap64 ((a0.size : Int) - 28)) then (if (wrap64 ((a0.size : Int) - 28)) ≤ (a0.size : Int) then ((spec_NameOk.f kj1 (a0.extract 0 ((wrap64 ((a0.size : Int) - 28)) : Int).toNat)).bind fun t109 => (if t109 = true then (some (a0.extract 0 ((wrap64 ((a0.size : Int) - 28)) : Int).toNat, t105, t107, true)) else (some ((⟨#[]⟩ : ByteArray), 0, 0, false)))) else (none)) else (none)) else (some ((⟨#[]⟩ : ByteArray), 0, 0, false))) = some (r1, r2, r3, r4) := by rw [if_pos rfl] at H; exact H
                    clear H
                    have H := H1
                    clear H1
                    by_cases c26 : t108 = true
                    · subst c26
                      have H1 : (if 0 ≤ (wrap64 ((a0.size : Int) - 28)) then (if (wrap64 ((a0.size : Int) - 28)) ≤ (a0.size : Int) then ((spec_NameOk.f kj1 (a0.extract 0 ((wrap64 ((a0.size : Int) - 28)) : Int).toNat)).bind fun t109 => (if t109 = true then (some (a0.extract 0 ((wrap64 ((a0.size : Int) - 28)) : Int).toNat, t105, t107, true)) else (some ((⟨#[]⟩ : ByteArray), 0, 0, false)))) else (none)) else (none)) = some (r1, r2, r3, r4) := by rw [if_pos rfl] at H; exact H
                      clear H
                      have H := H1
                      clear H1
                      obtain ⟨ji27, hji27⟩ : ∃ j_ : Int, (wrap64 ((a0.size : Int) - 28)) = j_ := ⟨_, rfl⟩
                      replace H : (if 0 ≤ (ji27) then (if (ji27) ≤ (a0.size : Int) then ((spec_NameOk.f kj1 (a0.extract 0 ((ji27) : Int).toNat)).bind fun t109 => (if t109 = true then (some (a0.extract 0 ((ji27) : Int).toNat, t105, t107, true)) else (some ((⟨#[]⟩ : ByteArray), 0, 0, false)))) else (none)) else (none)) = some (r1, r2, r3, r4) := by first | (rw [hji27] at H; exact H) | (simp only [hji27] at H ⊢; exact H)
                      (try rw [hji27] at c18b0)
                      (try rw [hji27] at c18b1)
                      (try rw [hji27] at c18)
                      (try rw [hji27] at c19b0)
                      (try rw [hji27] at c19b1)
                      (try rw [hji27] at c19)
                      (try rw [hji27] at A20)
                      (try rw [hji27] at A24)
                      have hji27w : (IntKind.i64.wrap ((a0.size : Int) - 28)) = ji27 := (i64_w _).trans hji27
                      (try rw [hji27] at hji5)
                      (try rw [hji27] at hji5w)
                      (try rw [hji27] at hji10)
                      (try rw [hji27] at hji10w)
                      (try rw [hji27] at hji16)
                      (try rw [hji27] at hji16w)
                      (try rw [hji27] at hji21)
                      (try rw [hji27] at hji21w)
                      (try rw [hji27] at c4b0)
                      (try rw [hji27] at c6b0)
                      (try rw [hji27] at c7b0)
                      (try rw [hji27] at c9b0)
                      (try rw [hji27] at c9b1)
                      (try rw [hji27] at c11b0)
                      (try rw [hji27] at c12b0)
                      (try rw [hji27] at c17b0)
                      (try rw [hji27] at c17b1)
                      (try rw [hji27] at c18b0)
                      (try rw [hji27] at c18b1)
                      (try rw [hji27] at c19b0)
                      (try rw [hji27] at c19b1)
                      (try rw [hji27] at c22b0)
                      (try rw [hji27] at c22b1)
                      (try rw [hji27] at c23b0)
                      (try rw [hji27] at c23b1)
                      (try rw [hji27])
                      by_cases c28 : 0 ≤ (ji27)
                      · rw [if_pos c28] at H
                        have c28b0 := eq_true c28
                        have c28b1 : decide (0 ≤ (ji27)) = true := decide_eq_true c28
                        clear c28
                        by_cases c29 : (ji27) ≤ (a0.size : Int)
                        · rw [if_pos c29] at H
                          have c29b0 := eq_true c29
                          have c29b1 : decide ((ji27) ≤ (a0.size : Int)) = true := decide_eq_true c29
                          clear c29
                          replace H := Option.bind_eq_some_iff.mp H
                          obtain ⟨t109, A300, H⟩ := H
                          replace H : (if t109 = true then (some (a0.extract 0 ((ji27) : Int).toNat, t105, t107, true)) else (some ((⟨#[]⟩ : ByteArray), 0, 0, false))) = some (r1, r2, r3, r4) := H
                          have A30 := Aside0.mk A300
                          clear A300
                          by_cases c31 : t109 = true
                          · subst c31
                            have H1 : (some (a0.extract 0 ((ji27) : Int).toNat, t105, t107, true)) = some (r1, r2, r3, r4) := by rw [if_pos rfl] at H; exact H
                            clear H
                            have H := H1
                            clear H1
                            have c32b0 := eq_true (of_decide_eq_true (by first | (with_reducible assumption) | assumption) : 0 ≤ (ji27))
                            have c33b0 := eq_true (of_decide_eq_true (by first | (with_reducible assumption) | assumption) : (ji27) ≤ (a0.size : Int))
                            simp only [Option.some.injEq, Prod.mk.injEq] at H
                            obtain ⟨rfl, rfl, rfl, rfl⟩ := H
                            go_wp2_with (first | ((with_reducible refine gate_callee (f := 31) rfl ?_); refine goesL_ (some 35) rfl rfl Tryd.func31 (by kernel_rfl) rfl #[.string (a0.extract ((ji16) : Int).toNat ((wrap64 ((ji27) + 14)) : Int).toNat)] rfl (by (try simp only [List.map_toArray, List.map_cons, List.map_nil]); first | done | (simp only [hji16, hji27]; rfl) | rfl | (simp only [List.length_drop, List.length_take]; rfl)) ?_; (with_reducible refine (spec_ReadWord32.calls kj1 (a0.extract ((ji16) : Int).toNat ((wrap64 ((ji27) + 14)) : Int).toNat) t105 true _ A20.out).mono ?_); rintro e w' ⟨rfl, ⟨nd, rfl⟩⟩; refine ⟨_, rfl, ?_⟩; (try (rw [drewN_self wc]; generalize hq_ : World.drewN wc _ = wc; have n0_ : Aside0 (wc.heap[gb104]? = some (.cells #[.string (⟨#[]⟩ : ByteArray), .int .u64 0, .int .u64 0] 24 (0, 0))) := ⟨by rw [← hq_]; exact (by (with_reducible repeat (first | refine blk_drewN ?_ _ | refine blk_drew ?_ | refine blk_alloc ?_ _)); exact BK104.out)⟩; have n1_ : Aside0 (Below w.heap.size w wc) := ⟨by rw [← hq_]; exact (by repeat (first | (with_reducible first | exact HB.out | apply below_alloc | apply pw_below_drewN | apply below_drew1 | refine below_set ?_ GE104.out) | exact HB.out))⟩; clear BK104 HB hq_; have BK104 := n0_; have HB := n1_; clear n0_ n1_))) | ((with_reducible refine gate_callee (f := 31) rfl ?_); refine goesL_ (some 43) rfl rfl Tryd.func31 (by kernel_rfl) rfl #[.string (a0.extract ((ji21) : Int).toNat a0.size)] rfl (by (try simp only [List.map_toArray, List.map_cons, List.map_nil]); first | done | (simp only [hji21]; rfl) | rfl | (simp only [List.length_drop, List.length_take]; rfl)) ?_; (with_reducible refine (spec_ReadWord32.calls kj1 (a0.extract ((ji21) : Int).toNat a0.size) t107 true _ A24.out).mono ?_); rintro e w' ⟨rfl, ⟨nd, rfl⟩⟩; refine ⟨_, rfl, ?_⟩; (try (rw [drewN_self wc]; generalize hq_ : World.drewN wc _ = wc; have n0_ : Aside0 (wc.heap[gb104]? = some (.cells #[.string (⟨#[]⟩ : ByteArray), .int .u64 0, .int .u64 0] 24 (0, 0))) := ⟨by rw [← hq_]; exact (by (with_reducible repeat (first | refine blk_drewN ?_ _ | refine blk_drew ?_ | refine blk_alloc ?_ _)); exact BK104.out)⟩; have n1_ : Aside0 (Below w.heap.size w wc) := ⟨by rw [← hq_]; exact (by repeat (first | (with_reducible first | exact HB.out | apply below_alloc | apply pw_below_drewN | apply below_drew1 | refine below_set ?_ GE104.out) | exact HB.out))⟩; clear BK104 HB hq_; have BK104 := n0_; have HB := n1_; clear n0_ n1_))) | (go_at_call 32; (with_reducible refine (spec_NameOk.calls kj1 (a0.extract 0 ((ji27) : Int).toNat) true _ A30.out).mono ?_); rintro e w' ⟨rfl, ⟨nd, rfl⟩⟩; (try (rw [drewN_self wc]; generalize hq_ : World.drewN wc _ = wc; have n0_ : Aside0 (wc.heap[gb104]? = some (.cells #[.string (⟨#[]⟩ : ByteArray), .int .u64 0, .int .u64 0] 24 (0, 0))) := ⟨by rw [← hq_]; exact (by (with_reducible repeat (first | refine blk_drewN ?_ _ | refine blk_drew ?_ | refine blk_alloc ?_ _)); exact BK104.out)⟩; have n1_ : Aside0 (Below w.heap.size w wc) := ⟨by rw [← hq_]; exact (by repeat (first | (with_reducible first | exact HB.out | apply below_alloc | apply pw_below_drewN | apply below_drew1 | refine below_set ?_ GE104.out) | exact HB.out))⟩; clear BK104 HB hq_; have BK104 := n0_; have HB := n1_; clear n0_ n1_)); have hcz34_0 : wc.cell? ⟨gb104, 0, none⟩ = some (.string (⟨#[]⟩ : ByteArray)) := (blk_cell BK104.out 0).trans rfl; have hcz34_1 : wc.cell? ⟨gb104, 1, none⟩ = some (.int .u64 0) := (blk_cell BK104.out 1).trans rfl; have hcz34_2 : wc.cell? ⟨gb104, 2, none⟩ = some (.int .u64 0) := (blk_cell BK104.out 2).trans rfl; have hfz34_0 := blk_frozen BK104.out 0; have hfz34_1 := blk_frozen BK104.out 1; have hfz34_2 := blk_frozen BK104.out 2))
                            refine bodyPost_ret (results_ct rfl _ _ gb104 24 #[.string (a0.extract 0 ((ji27) : Int).toNat), .int .u64 t105, .int .u64 t107] (0, 0) _ rfl (by (with_reducible repeat (first | refine blk_drewN ?_ _ | refine blk_drew ?_ | refine blk_alloc ?_ _)); refine blk_put (cs := #[.string (a0.extract 0 ((ji27) : Int).toNat), .int .u64 t105, .int .u64 0]) ?_ 2 _ rfl; (with_reducible repeat (first | refine blk_drewN ?_ _ | refine blk_drew ?_ | refine blk_alloc ?_ _)); refine blk_put (cs := #[.string (a0.extract 0 ((ji27) : Int).toNat), .int .u64 0, .int .u64 0]) ?_ 1 _ rfl; (with_reducible repeat (first | refine blk_drewN ?_ _ | refine blk_drew ?_ | refine blk_alloc ?_ _)); refine blk_put (cs := #[.string (⟨#[]⟩ : ByteArray), .int .u64 0, .int .u64 0]) ?_ 0 _ rfl; (with_reducible repeat (first | refine blk_drewN ?_ _ | refine blk_drew ?_ | refine blk_alloc ?_ _)); exact BK104.out) Tryd.underlying24 rfl (by kernel_rfl)) rfl ?_
                            exact ⟨by first | rfl | (simp [errW_none, errW_some] <;> rfl) | (simp only [← hji16, ← hji21, ← hji27]; first | rfl | (simp [errW_none, errW_some] <;> rfl)) | (simp [*, errW_none, errW_some] <;> rfl), by repeat (first | (with_reducible first | exact HB.out | apply below_alloc | apply pw_below_drewN | apply below_drew1 | refine below_set ?_ GE104.out) | exact HB.out)⟩
                          · replace c31 := Bool.eq_false_iff.mpr c31
                            subst c31
                            have H1 : (some ((⟨#[]⟩ : ByteArray), 0, 0, false)) = some (r1, r2, r3, r4) := by rw [if_neg (show ¬ (false = true) by decide)] at H; exact H
                            clear H
                            have H := H1
                            clear H1
                            simp only [Option.some.injEq, Prod.mk.injEq] at H
                            obtain ⟨rfl, rfl, rfl, rfl⟩ := H
                            go_wp2_with (first | ((with_reducible refine gate_callee (f := 31) rfl ?_); refine goesL_ (some 35) rfl rfl Tryd.func31 (by kernel_rfl) rfl #[.string (a0.extract ((ji16) : Int).toNat ((wrap64 ((ji27) + 14)) : Int).toNat)] rfl (by (try simp only [List.map_toArray, List.map_cons, List.map_nil]); first | done | (simp only [hji16, hji27]; rfl) | rfl | (simp only [List.length_drop, List.length_take]; rfl)) ?_; (with_reducible refine (spec_ReadWord32.calls kj1 (a0.extract ((ji16) : Int).toNat ((wrap64 ((ji27) + 14)) : Int).toNat) t105 true _ A20.out).mono ?_); rintro e w' ⟨rfl, ⟨nd, rfl⟩⟩; refine ⟨_, rfl, ?_⟩; (try (rw [drewN_self wc]; generalize hq_ : World.drewN wc _ = wc; have n0_ : Aside0 (wc.heap[gb104]? = some (.cells #[.string (⟨#[]⟩ : ByteArray), .int .u64 0, .int .u64 0] 24 (0, 0))) := ⟨by rw [← hq_]; exact (by (with_reducible repeat (first | refine blk_drewN ?_ _ | refine blk_drew ?_ | refine blk_alloc ?_ _)); exact BK104.out)⟩; have n1_ : Aside0 (Below w.heap.size w wc) := ⟨by rw [← hq_]; exact (by repeat (first | (with_reducible first | exact HB.out | apply below_alloc | apply pw_below_drewN | apply below_drew1 | refine below_set ?_ GE104.out) | exact HB.out))⟩; clear BK104 HB hq_; have BK104 := n0_; have HB := n1_; clear n0_ n1_))) | ((with_reducible refine gate_callee (f := 31) rfl ?_); refine goesL_ (some 43) rfl rfl Tryd.func31 (by kernel_rfl) rfl #[.string (a0.extract ((ji21) : Int).toNat a0.size)] rfl (by (try simp only [List.map_toArray, List.map_cons, List.map_nil]); first | done | (simp only [hji21]; rfl) | rfl | (simp only [List.length_drop, List.length_take]; rfl)) ?_; (with_reducible refine (spec_ReadWord32.calls kj1 (a0.extract ((ji21) : Int).toNat a0.size) t107 true _ A24.out).mono ?_); rintro e w' ⟨rfl, ⟨nd, rfl⟩⟩; refine ⟨_, rfl, ?_⟩; (try (rw [drewN_self wc]; generalize hq_ : World.drewN wc _ = wc; have n0_ : Aside0 (wc.heap[gb104]? = some (.cells #[.string (⟨#[]⟩ : ByteArray), .int .u64 0, .int .u64 0] 24 (0, 0))) := ⟨by rw [← hq_]; exact (by (with_reducible repeat (first | refine blk_drewN ?_ _ | refine blk_drew ?_ | refine blk_alloc ?_ _)); exact BK104.out)⟩; have n1_ : Aside0 (Below w.heap.size w wc) := ⟨by rw [← hq_]; exact (by repeat (first | (with_reducible first | exact HB.out | apply below_alloc | apply pw_below_drewN | apply below_drew1 | refine below_set ?_ GE104.out) | exact HB.out))⟩; clear BK104 HB hq_; have BK104 := n0_; have HB := n1_; clear n0_ n1_))) | (go_at_call 32; (with_reducible refine (spec_NameOk.calls kj1 (a0.extract 0 ((ji27) : Int).toNat) false _ A30.out).mono ?_); rintro e w' ⟨rfl, ⟨nd, rfl⟩⟩; (try (rw [drewN_self wc]; generalize hq_ : World.drewN wc _ = wc; have n0_ : Aside0 (wc.heap[gb104]? = some (.cells #[.string (⟨#[]⟩ : ByteArray), .int .u64 0, .int .u64 0] 24 (0, 0))) := ⟨by rw [← hq_]; exact (by (with_reducible repeat (first | refine blk_drewN ?_ _ | refine blk_drew ?_ | refine blk_alloc ?_ _)); exact BK104.out)⟩; have n1_ : Aside0 (Below w.heap.size w wc) := ⟨by rw [← hq_]; exact (by repeat (first | (with_reducible first | exact HB.out | apply below_alloc | apply pw_below_drewN | apply below_drew1 | refine below_set ?_ GE104.out) | exact HB.out))⟩; clear BK104 HB hq_; have BK104 := n0_; have HB := n1_; clear n0_ n1_)); have hcz35_0 : wc.cell? ⟨gb104, 0, none⟩ = some (.string (⟨#[]⟩ : ByteArray)) := (blk_cell BK104.out 0).trans rfl; have hcz35_1 : wc.cell? ⟨gb104, 1, none⟩ = some (.int .u64 0) := (blk_cell BK104.out 1).trans rfl; have hcz35_2 : wc.cell? ⟨gb104, 2, none⟩ = some (.int .u64 0) := (blk_cell BK104.out 2).trans rfl; have hfz35_0 := blk_frozen BK104.out 0; have hfz35_1 := blk_frozen BK104.out 1; have hfz35_2 := blk_frozen BK104.out 2))
                            refine bodyPost_ret (results_ct rfl _ _ gb104 24 #[.string (⟨#[]⟩ : ByteArray), .int .u64 0, .int .u64 0] (0, 0) _ rfl (by (with_reducible repeat (first | refine blk_drewN ?_ _ | refine blk_drew ?_ | refine blk_alloc ?_ _)); refine blk_put (cs := #[.string (⟨#[]⟩ : ByteArray), .int .u64 0, .int .u64 0]) ?_ 2 _ rfl; (with_reducible repeat (first | refine blk_drewN ?_ _ | refine blk_drew ?_ | refine blk_alloc ?_ _)); refine blk_put (cs := #[.string (⟨#[]⟩ : ByteArray), .int .u64 0, .int .u64 0]) ?_ 1 _ rfl; (with_reducible repeat (first | refine blk_drewN ?_ _ | refine blk_drew ?_ | refine blk_alloc ?_ _)); refine blk_put (cs := #[.string (⟨#[]⟩ : ByteArray), .int .u64 0, .int .u64 0]) ?_ 0 _ rfl; (with_reducible repeat (first | refine blk_drewN ?_ _ | refine blk_drew ?_ | refine blk_alloc ?_ _)); exact BK104.out) Tryd.underlying24 rfl (by kernel_rfl)) rfl ?_
                            exact ⟨by first | rfl | (simp [errW_none, errW_some] <;> rfl) | (simp only [← hji16, ← hji21, ← hji27]; first | rfl | (simp [errW_none, errW_some] <;> rfl)) | (simp [*, errW_none, errW_some] <;> rfl), by repeat (first | (with_reducible first | exact HB.out | apply below_alloc | apply pw_below_drewN | apply below_drew1 | refine below_set ?_ GE104.out) | exact HB.out)⟩
                        · rw [if_neg c29] at H
                          exact absurd H (by simp)
                      · rw [if_neg c28] at H
                        exact absurd H (by simp)
                    · replace c26 := Bool.eq_false_iff.mpr c26
                      subst c26
                      have H1 : (some ((⟨#[]⟩ : ByteArray), 0, 0, false)) = some (r1, r2, r3, r4) := by rw [if_neg (show ¬ (false = true) by decide)] at H; exact H
                      clear H
                      have H := H1
                      clear H1
                      simp only [Option.some.injEq, Prod.mk.injEq] at H
                      obtain ⟨rfl, rfl, rfl, rfl⟩ := H
                      go_wp2_with (first | ((with_reducible refine gate_callee (f := 31) rfl ?_); refine goesL_ (some 35) rfl rfl Tryd.func31 (by kernel_rfl) rfl #[.string (a0.extract ((ji16) : Int).toNat ((wrap64 ((wrap64 ((a0.size : Int) - 28)) + 14)) : Int).toNat)] rfl (by (try simp only [List.map_toArray, List.map_cons, List.map_nil]); first | done | (simp only [hji16]; rfl) | rfl | (simp only [List.length_drop, List.length_take]; rfl)) ?_; (with_reducible refine (spec_ReadWord32.calls kj1 (a0.extract ((ji16) : Int).toNat ((wrap64 ((wrap64 ((a0.size : Int) - 28)) + 14)) : Int).toNat) t105 true _ A20.out).mono ?_); rintro e w' ⟨rfl, ⟨nd, rfl⟩⟩; refine ⟨_, rfl, ?_⟩; (try (rw [drewN_self wc]; generalize hq_ : World.drewN wc _ = wc; have n0_ : Aside0 (wc.heap[gb104]? = some (.cells #[.string (⟨#[]⟩ : ByteArray), .int .u64 0, .int .u64 0] 24 (0, 0))) := ⟨by rw [← hq_]; exact (by (with_reducible repeat (first | refine blk_drewN ?_ _ | refine blk_drew ?_ | refine blk_alloc ?_ _)); exact BK104.out)⟩; have n1_ : Aside0 (Below w.heap.size w wc) := ⟨by rw [← hq_]; exact (by repeat (first | (with_reducible first | exact HB.out | apply below_alloc | apply pw_below_drewN | apply below_drew1 | refine below_set ?_ GE104.out) | exact HB.out))⟩; clear BK104 HB hq_; have BK104 := n0_; have HB := n1_; clear n0_ n1_))) | ((with_reducible refine gate_callee (f := 31) rfl ?_); refine goesL_ (some 43) rfl rfl Tryd.func31 (by kernel_rfl) rfl #[.string (a0.extract ((ji21) : Int).toNat a0.size)] rfl (by (try simp only [List.map_toArray, List.map_cons, List.map_nil]); first | done | (simp only [hji21]; rfl) | rfl | (simp only [List.length_drop, List.length_take]; rfl)) ?_; (with_reducible refine (spec_ReadWord32.calls kj1 (a0.extract ((ji21) : Int).toNat a0.size) t107 false _ A24.out).mono ?_); rintro e w' ⟨rfl, ⟨nd, rfl⟩⟩; refine ⟨_, rfl, ?_⟩; (try (rw [drewN_self wc]; generalize hq_ : World.drewN wc _ = wc; have n0_ : Aside0 (wc.heap[gb104]? = some (.cells #[.string (⟨#[]⟩ : ByteArray), .int .u64 0, .int .u64 0] 24 (0, 0))) := ⟨by rw [← hq_]; exact (by (with_reducible repeat (first | refine blk_drewN ?_ _ | refine blk_drew ?_ | refine blk_alloc ?_ _)); exact BK104.out)⟩; have n1_ : Aside0 (Below w.heap.size w wc) := ⟨by rw [← hq_]; exact (by repeat (first | (with_reducible first | exact HB.out | apply below_alloc | apply pw_below_drewN | apply below_drew1 | refine below_set ?_ GE104.out) | exact HB.out))⟩; clear BK104 HB hq_; have BK104 := n0_; have HB := n1_; clear n0_ n1_)); have hcz36_0 : wc.cell? ⟨gb104, 0, none⟩ = some (.string (⟨#[]⟩ : ByteArray)) := (blk_cell BK104.out 0).trans rfl; have hcz36_1 : wc.cell? ⟨gb104, 1, none⟩ = some (.int .u64 0) := (blk_cell BK104.out 1).trans rfl; have hcz36_2 : wc.cell? ⟨gb104, 2, none⟩ = some (.int .u64 0) := (blk_cell BK104.out 2).trans rfl; have hfz36_0 := blk_frozen BK104.out 0; have hfz36_1 := blk_frozen BK104.out 1; have hfz36_2 := blk_frozen BK104.out 2))
                      refine bodyPost_ret (results_ct rfl _ _ gb104 24 #[.string (⟨#[]⟩ : ByteArray), .int .u64 0, .int .u64 0] (0, 0) _ rfl (by (with_reducible repeat (first | refine blk_drewN ?_ _ | refine blk_drew ?_ | refine blk_alloc ?_ _)); refine blk_put (cs := #[.string (⟨#[]⟩ : ByteArray), .int .u64 0, .int .u64 0]) ?_ 2 _ rfl; (with_reducible repeat (first | refine blk_drewN ?_ _ | refine blk_drew ?_ | refine blk_alloc ?_ _)); refine blk_put (cs := #[.string (⟨#[]⟩ : ByteArray), .int .u64 0, .int .u64 0]) ?_ 1 _ rfl; (with_reducible repeat (first | refine blk_drewN ?_ _ | refine blk_drew ?_ | refine blk_alloc ?_ _)); refine blk_put (cs := #[.string (⟨#[]⟩ : ByteArray), .int .u64 0, .int .u64 0]) ?_ 0 _ rfl; (with_reducible repeat (first | refine blk_drewN ?_ _ | refine blk_drew ?_ | refine blk_alloc ?_ _)); exact BK104.out) Tryd.underlying24 rfl (by kernel_rfl)) rfl ?_
                      exact ⟨by first | rfl | (simp [errW_none, errW_some] <;> rfl) | (simp only [← hji16, ← hji21]; first | rfl | (simp [errW_none, errW_some] <;> rfl)) | (simp [*, errW_none, errW_some] <;> rfl), by repeat (first | (with_reducible first | exact HB.out | apply below_alloc | apply pw_below_drewN | apply below_drew1 | refine below_set ?_ GE104.out) | exact HB.out)⟩
                  · replace c25 := Bool.eq_false_iff.mpr c25
                    subst c25
                    have H1 : (some ((⟨#[]⟩ : ByteArray), 0, 0, false)) = some (r1, r2, r3, r4) := by rw [if_neg (show ¬ (false = true) by decide)] at H; exact H
                    clear H
                    have H := H1
                    clear H1
                    simp only [Option.some.injEq, Prod.mk.injEq] at H
                    obtain ⟨rfl, rfl, rfl, rfl⟩ := H
                    go_wp2_with (first | ((with_reducible refine gate_callee (f := 31) rfl ?_); refine goesL_ (some 35) rfl rfl Tryd.func31 (by kernel_rfl) rfl #[.string (a0.extract ((ji16) : Int).toNat ((wrap64 ((wrap64 ((a0.size : Int) - 28)) + 14)) : Int).toNat)] rfl (by (try simp only [List.map_toArray, List.map_cons, List.map_nil]); first | done | (simp only [hji16]; rfl) | rfl | (simp only [List.length_drop, List.length_take]; rfl)) ?_; (with_reducible refine (spec_ReadWord32.calls kj1 (a0.extract ((ji16) : Int).toNat ((wrap64 ((wrap64 ((a0.size : Int) - 28)) + 14)) : Int).toNat) t105 false _ A20.out).mono ?_); rintro e w' ⟨rfl, ⟨nd, rfl⟩⟩; refine ⟨_, rfl, ?_⟩; (try (rw [drewN_self wc]; generalize hq_ : World.drewN wc _ = wc; have n0_ : Aside0 (wc.heap[gb104]? = some (.cells #[.string (⟨#[]⟩ : ByteArray), .int .u64 0, .int .u64 0] 24 (0, 0))) := ⟨by rw [← hq_]; exact (by (with_reducible repeat (first | refine blk_drewN ?_ _ | refine blk_drew ?_ | refine blk_alloc ?_ _)); exact BK104.out)⟩; have n1_ : Aside0 (Below w.heap.size w wc) := ⟨by rw [← hq_]; exact (by repeat (first | (with_reducible first | exact HB.out | apply below_alloc | apply pw_below_drewN | apply below_drew1 | refine below_set ?_ GE104.out) | exact HB.out))⟩; clear BK104 HB hq_; have BK104 := n0_; have HB := n1_; clear n0_ n1_))) | ((with_reducible refine gate_callee (f := 31) rfl ?_); refine goesL_ (some 43) rfl rfl Tryd.func31 (by kernel_rfl) rfl #[.string (a0.extract ((ji21) : Int).toNat a0.size)] rfl (by (try simp only [List.map_toArray, List.map_cons, List.map_nil]); first | done | (simp only [hji21]; rfl) | rfl | (simp only [List.length_drop, List.length_take]; rfl)) ?_; (with_reducible refine (spec_ReadWord32.calls kj1 (a0.extract ((ji21) : Int).toNat a0.size) t107 t108 _ A24.out).mono ?_); rintro e w' ⟨rfl, ⟨nd, rfl⟩⟩; refine ⟨_, rfl, ?_⟩; (try (rw [drewN_self wc]; generalize hq_ : World.drewN wc _ = wc; have n0_ : Aside0 (wc.heap[gb104]? = some (.cells #[.string (⟨#[]⟩ : ByteArray), .int .u64 0, .int .u64 0] 24 (0, 0))) := ⟨by rw [← hq_]; exact (by (with_reducible repeat (first | refine blk_drewN ?_ _ | refine blk_drew ?_ | refine blk_alloc ?_ _)); exact BK104.out)⟩; have n1_ : Aside0 (Below w.heap.size w wc) := ⟨by rw [← hq_]; exact (by repeat (first | (with_reducible first | exact HB.out | apply below_alloc | apply pw_below_drewN | apply below_drew1 | refine below_set ?_ GE104.out) | exact HB.out))⟩; clear BK104 HB hq_; have BK104 := n0_; have HB := n1_; clear n0_ n1_)); have hcz37_0 : wc.cell? ⟨gb104, 0, none⟩ = some (.string (⟨#[]⟩ : ByteArray)) := (blk_cell BK104.out 0).trans rfl; have hcz37_1 : wc.cell? ⟨gb104, 1, none⟩ = some (.int .u64 0) := (blk_cell BK104.out 1).trans rfl; have hcz37_2 : wc.cell? ⟨gb104, 2, none⟩ = some (.int .u64 0) := (blk_cell BK104.out 2).trans rfl; have hfz37_0 := blk_frozen BK104.out 0; have hfz37_1 := blk_frozen BK104.out 1; have hfz37_2 := blk_frozen BK104.out 2))
                    refine bodyPost_ret (results_ct rfl _ _ gb104 24 #[.string (⟨#[]⟩ : ByteArray), .int .u64 0, .int .u64 0] (0, 0) _ rfl (by (with_reducible repeat (first | refine blk_drewN ?_ _ | refine blk_drew ?_ | refine blk_alloc ?_ _)); refine blk_put (cs := #[.string (⟨#[]⟩ : ByteArray), .int .u64 0, .int .u64 0]) ?_ 2 _ rfl; (with_reducible repeat (first | refine blk_drewN ?_ _ | refine blk_drew ?_ | refine blk_alloc ?_ _)); refine blk_put (cs := #[.string (⟨#[]⟩ : ByteArray), .int .u64 0, .int .u64 0]) ?_ 1 _ rfl; (with_reducible repeat (first | refine blk_drewN ?_ _ | refine blk_drew ?_ | refine blk_alloc ?_ _)); refine blk_put (cs := #[.string (⟨#[]⟩ : ByteArray), .int .u64 0, .int .u64 0]) ?_ 0 _ rfl; (with_reducible repeat (first | refine blk_drewN ?_ _ | refine blk_drew ?_ | refine blk_alloc ?_ _)); exact BK104.out) Tryd.underlying24 rfl (by kernel_rfl)) rfl ?_
                    exact ⟨by first | rfl | (simp [errW_none, errW_some] <;> rfl) | (simp only [← hji16, ← hji21]; first | rfl | (simp [errW_none, errW_some] <;> rfl)) | (simp [*, errW_none, errW_some] <;> rfl), by repeat (first | (with_reducible first | exact HB.out | apply below_alloc | apply pw_below_drewN | apply below_drew1 | refine below_set ?_ GE104.out) | exact HB.out)⟩
                · rw [if_neg c23] at H
                  exact absurd H (by simp)
              · rw [if_neg c22] at H
                exact absurd H (by simp)
            · rw [if_neg c19] at H
              exact absurd H (by simp)
          · rw [if_neg c18] at H
            exact absurd H (by simp)
        · rw [if_neg c17] at H
          exact absurd H (by simp)

-- NOT PRINTED: function 99 (utf8_RuneCountInString)

-- NOT PRINTED: function 116 (utf8_decodeRuneInStringSlow)

-- NOT PRINTED: function 100 (utf8_DecodeRuneInString)

-- NOT PRINTED: function 88 (strings_explode)

-- NOT PRINTED: function 106 (bytealg_IndexByteString)

-- NOT PRINTED: function 92 (stringslite_IndexByte)
end Go.Proofs.YtklinldidfdnjaaDoor.PFnExactReadKey
