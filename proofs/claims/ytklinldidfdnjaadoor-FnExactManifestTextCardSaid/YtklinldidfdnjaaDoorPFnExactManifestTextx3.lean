-- Laid by a program of this session: a turned copy of the kit's print, with contracts by hand beside.
import Derived.Test.YtklinldidfdnjaaDoorPFnExactManifestTextx0
import Derived.Test.YtklinldidfdnjaaDoorPFnExactManifestTextx2
namespace Go.Proofs.YtklinldidfdnjaaDoor.PFnExactManifestText
open Go.RowKit Go.Proofs.YtklinldidfdnjaaDoorW.PrintWords Go.Proofs.YtklinldidfdnjaaDoorW.PrintLast Go.Proofs.YtklinldidfdnjaaDoorW.PrintMore
attribute [local go_sem] max2_int min2_int max_two min_two max_three min_three max_four min_four   -- for this text's walks alone
set_option linter.unusedVariables false
set_option linter.unusedSimpArgs false

/-! ### spec_l2Int: function 82 -/
def spec_l2Int.l0 : Nat → Int → ByteArray → Option (ByteArray)
  | 0, _, _ => none
  | k + 1, x0, x3 => if x0 > 9 then ((some (([(wrap64 (48 + (Int.tmod x0 10))) % 256] : List Int) : List Int)).bind fun y120 => (if (strOfNums y120).size + x3.size ≤ 9223372036854775807 then (spec_l2Int.l0 k (wrap64 (Int.tdiv x0 10)) ((strOfNums y120) ++ x3)) else (none))) else ((some (([(wrap64 (48 + x0)) % 256] : List Int) : List Int)).bind fun y123 => (if (strOfNums y123).size + x3.size ≤ 9223372036854775807 then (some ((strOfNums y123) ++ x3)) else (none)))
def spec_l2Int.f (k : Nat) (a0 : Int) : Option (ByteArray) := spec_l2Int.l0 k a0 (⟨#[]⟩ : ByteArray)
theorem spec_l2Int.mono_l : ∀ k, (∀ y0 y1, LeO (spec_l2Int.l0 k y0 y1) (spec_l2Int.l0 (k + 1) y0 y1))
  | 0 => fun _ _ r h => by simp [spec_l2Int.l0] at h
  | k + 1 => by
    have ih0 := spec_l2Int.mono_l k
    · intro y0 y1
      unfold spec_l2Int.l0
      repeat' first
      | (with_reducible exact ih0 _ _)
      | (with_reducible exact LeO.refl _)
      | (with_reducible exact LeO.none _)
      | (with_reducible refine LeO.ite ?_ ?_)
      | (with_reducible refine LeO.bind ?_ (fun _ => ?_))
      | exact ih0 _ _
      | exact LeO.none _
      | refine LeO.ite ?_ ?_
      | refine LeO.bind ?_ (fun _ => ?_)
theorem spec_l2Int.mono : ∀ a0 k, LeO (spec_l2Int.f k a0) (spec_l2Int.f (k + 1) a0) := by
  intro a0 k
  have ih0 := spec_l2Int.mono_l k
  unfold spec_l2Int.f
  repeat' first
      | (with_reducible exact ih0 _ _)
      | (with_reducible exact LeO.refl _)
      | (with_reducible exact LeO.none _)
      | (with_reducible refine LeO.ite ?_ ?_)
      | (with_reducible refine LeO.bind ?_ (fun _ => ?_))
      | exact ih0 _ _
      | exact LeO.none _
      | refine LeO.ite ?_ ?_
      | refine LeO.bind ?_ (fun _ => ?_)
set_option maxHeartbeats 8000000 in
set_option maxRecDepth 100000 in
theorem spec_l2Int.calls (k : Nat) (a0 : Int) (r : ByteArray) (w : World) (h : spec_l2Int.f k a0 = some r) :
    Calls Tryd.prog 82 #[.int .i64 a0] w fun e w' => e = .returned (.string r) ∧ Below w.heap.size w w' := by
  have HB := Aside0.mk (Below.refl w.heap.size w)
  have H : (spec_l2Int.l0 k a0 (⟨#[]⟩ : ByteArray)) = some r := h
  clear h
  have H' := Aside0.mk H
  clear H
  go_enter Tryd.func82, Tryd.ntmps82
  go_wp2
  go_loopg [0, 3] k (fun kq v0 v3 w' => ∃ (x0_1 : Int) (x3_1 : ByteArray), v0 = .int .i64 x0_1 ∧ v3 = .string x3_1 ∧ Aside0 (spec_l2Int.l0 kq x0_1 x3_1 = some r) ∧ Aside0 (kq ≤ k) ∧ Aside0 (Below w.heap.size w w'))
  case atStart => exact ⟨(a0), ((⟨#[]⟩ : ByteArray)), (by first | rfl | (simp; done) | (simp [*]; done) | (simp; (generalize ByteArray.toList _ = q; cases q <;> rfl))), (by first | rfl | (simp; done) | (simp [*]; done) | (simp; (generalize ByteArray.toList _ = q; cases q <;> rfl))), H', ⟨Nat.le_refl _⟩, ⟨by repeat (first | (with_reducible first | exact HB.out | apply below_alloc | apply pw_below_drewN | apply below_drew1) | exact HB.out)⟩⟩
  case round =>
    clear H'
    obtain ⟨x0_1, x3_1, rfl, rfl, HA, HK1, HB⟩ := hrel
    cases gk with
    | zero => exact absurd HA.out (by simp [spec_l2Int.l0])
    | succ k1 =>
      have H := HA.out
      clear HA
      simp only [spec_l2Int.l0] at H
      by_cases c2 : x0_1 > 9
      · rw [if_pos c2] at H
        have c2b0 : decide (9 < x0_1) = true := decide_eq_true c2
        clear c2
        obtain ⟨y120, hy120⟩ : ∃ y_ : List Int, y_ = (([(wrap64 (48 + (Int.tmod x0_1 10))) % 256] : List Int)) := ⟨_, rfl⟩
        replace H : (if (strOfNums y120).size + x3_1.size ≤ 9223372036854775807 then (spec_l2Int.l0 k1 (wrap64 (Int.tdiv x0_1 10)) ((strOfNums y120) ++ x3_1)) else (none)) = some r := by first | (rw [hy120]; with_reducible exact H) | (have H2_ := (Option.bind_some _ _).symm.trans H; rw [hy120]; with_reducible exact H2_) | (have H2_ := (Option.bind_some _ _).symm.trans H; with_reducible exact H2_) | with_reducible exact H | (rw [hy120]; exact H) | exact H
        have Ny120 := Aside0.mk hy120
        clear hy120
        by_cases c3 : (strOfNums y120).size + x3_1.size ≤ 9223372036854775807
        · rw [if_pos c3] at H
          have c3b0 := eq_true c3
          have c3b1 : decide ((strOfNums y120).size + x3_1.size ≤ 9223372036854775807) = true := decide_eq_true c3
          try have c3b2 : (9223372036854775807 < (strOfNums y120).size + x3_1.size) = False := eq_false (Nat.not_lt.2 c3)
          try (have c3b3 := Nat.not_lt.2 c3; simp only [ByteArray.size_append, ByteArray.size_mk', List.size_toArray, List.length_cons, List.length_nil, Nat.zero_add, Nat.reduceAdd] at c3b3; replace c3b3 := eq_false c3b3)
          have H' := Aside0.mk H
          clear H
          go_wp2_with (first | ((with_reducible refine gate_dst (N := 10) rfl ?_); refine Kd.R_lit (Kd.int .u8) _ 5 ?hg (N := 10) ?hd (xs := ([(wrap64 (48 + (Int.tmod x0_1 10))) % 256] : List Int)) (inner := [.int .u8 ((wrap64 (48 + (Int.tmod x0_1 10))) % 256)]) (ok := fun _ => True) (okp := fun _ => True) ?hr ?hp (fun _ hk => hk) trivial (Below.refl _ _) (Nat.le_refl _) (by simp) ?_; (case hd => rfl); (case hg => rfl); (case hr => first | (go_simp; done) | (go_simp; rfl)); (case hp => exact (Reps.one (show Kd.M (Kd.int .u8) _ _ _ ((wrap64 (48 + (Int.tmod x0_1 10))) % 256) [.int .u8 ((wrap64 (48 + (Int.tmod x0_1 10))) % 256)] from rfl) (Reps.none _ _))); intro v121 w4 ho5 hb hg_ hnew_; clear hg_ hnew_; (first | rw [← Ny120.out] at ho5 | (simp only [Int.reduceToNat] at ho5; rw [← Ny120.out] at ho5)); have n0_ := Aside0.mk (Kd.R_lower ho5 (below_size (by repeat (first | (with_reducible first | exact HB.out | apply below_alloc | apply pw_below_drewN | apply below_drew1) | exact HB.out)))); have n1_ := Aside0.mk (below_step (by repeat (first | (with_reducible first | exact HB.out | apply below_alloc | apply pw_below_drewN | apply below_drew1) | exact HB.out)) hb); clear HB; have HO122 := n0_; have HB := n1_; clear n0_ n1_; clear hb ho5; have hcv6 := own_string (P := Tryd.prog) Tryd.underlying101 Tryd.underlying5 Tryd.underlying9 (Kd.own_of_R HO122.out)))
          go_roundg k1
          case measure => have := HK1.out; omega
          case rel => exact ⟨(wrap64 (Int.tdiv x0_1 10)), ((strOfNums y120) ++ x3_1), (by first | rfl | (simp; done) | (simp [*]; done) | (simp; (generalize ByteArray.toList _ = q; cases q <;> rfl))), (by first | rfl | (simp; done) | (simp [*]; done) | (simp; (generalize ByteArray.toList _ = q; cases q <;> rfl))), H', ⟨by have := HK1.out; omega⟩, ⟨by repeat (first | (with_reducible first | exact HB.out | apply below_alloc | apply pw_below_drewN | apply below_drew1) | exact HB.out)⟩⟩
        · rw [if_neg c3] at H
          exact absurd H (by simp)
      · rw [if_neg c2] at H
        have c2b0 : decide (9 < x0_1) = false := decide_eq_false c2
        clear c2
        obtain ⟨y123, hy123⟩ : ∃ y_ : List Int, y_ = (([(wrap64 (48 + x0_1)) % 256] : List Int)) := ⟨_, rfl⟩
        replace H : (if (strOfNums y123).size + x3_1.size ≤ 9223372036854775807 then (some ((strOfNums y123) ++ x3_1)) else (none)) = some r := by first | (rw [hy123]; with_reducible exact H) | (have H2_ := (Option.bind_some _ _).symm.trans H; rw [hy123]; with_reducible exact H2_) | (have H2_ := (Option.bind_some _ _).symm.trans H; with_reducible exact H2_) | with_reducible exact H | (rw [hy123]; exact H) | exact H
        have Ny123 := Aside0.mk hy123
        clear hy123
        by_cases c7 : (strOfNums y123).size + x3_1.size ≤ 9223372036854775807
        · rw [if_pos c7] at H
          have c7b0 := eq_true c7
          have c7b1 : decide ((strOfNums y123).size + x3_1.size ≤ 9223372036854775807) = true := decide_eq_true c7
          try have c7b2 : (9223372036854775807 < (strOfNums y123).size + x3_1.size) = False := eq_false (Nat.not_lt.2 c7)
          try (have c7b3 := Nat.not_lt.2 c7; simp only [ByteArray.size_append, ByteArray.size_mk', List.size_toArray, List.length_cons, List.length_nil, Nat.zero_add, Nat.reduceAdd] at c7b3; replace c7b3 := eq_false c7b3)
          obtain rfl := Option.some.inj H
          go_wp2_with (first | ((with_reducible refine gate_dst (N := 19) rfl ?_); refine Kd.R_lit (Kd.int .u8) _ 5 ?hg (N := 19) ?hd (xs := ([(wrap64 (48 + x0_1)) % 256] : List Int)) (inner := [.int .u8 ((wrap64 (48 + x0_1)) % 256)]) (ok := fun _ => True) (okp := fun _ => True) ?hr ?hp (fun _ hk => hk) trivial (Below.refl _ _) (Nat.le_refl _) (by simp) ?_; (case hd => rfl); (case hg => rfl); (case hr => first | (go_simp; done) | (go_simp; rfl)); (case hp => exact (Reps.one (show Kd.M (Kd.int .u8) _ _ _ ((wrap64 (48 + x0_1)) % 256) [.int .u8 ((wrap64 (48 + x0_1)) % 256)] from rfl) (Reps.none _ _))); intro v124 w8 ho9 hb hg_ hnew_; clear hg_ hnew_; (first | rw [← Ny123.out] at ho9 | (simp only [Int.reduceToNat] at ho9; rw [← Ny123.out] at ho9)); have n0_ := Aside0.mk (Kd.R_lower ho9 (below_size (by repeat (first | (with_reducible first | exact HB.out | apply below_alloc | apply pw_below_drewN | apply below_drew1) | exact HB.out)))); have n1_ := Aside0.mk (below_step (by repeat (first | (with_reducible first | exact HB.out | apply below_alloc | apply pw_below_drewN | apply below_drew1) | exact HB.out)) hb); clear HB; have HO125 := n0_; have HB := n1_; clear n0_ n1_; clear hb ho9; have hcv10 := own_string (P := Tryd.prog) Tryd.underlying101 Tryd.underlying5 Tryd.underlying9 (Kd.own_of_R HO125.out)))
          go_ret
          exact ⟨by first | rfl | (simp [errW_none, errW_some] <;> rfl) | (simp [*, errW_none, errW_some] <;> rfl), by repeat (first | (with_reducible first | exact HB.out | apply below_alloc | apply pw_below_drewN | apply below_drew1) | exact HB.out)⟩
        · rw [if_neg c7] at H
          exact absurd H (by simp)

/-! ### spec_l16Head: function 50 -/
theorem bytesL_append (a b : ByteArray) : bytesL (a ++ b) = bytesL a ++ bytesL b := by
  unfold bytesL
  rw [ByteArray.data_append, Array.toList_append, List.map_append]
theorem strOfNums_bytesL (s : ByteArray) : strOfNums (bytesL s) = s := by
  unfold strOfNums bytesL
  rw [List.map_map]
  cases s with
  | mk d =>
    congr 1
    apply Array.ext'
    rw [show ((fun n : Int => UInt8.ofNat n.toNat) ∘ fun b : UInt8 => (b.toNat : Int)) = id from funext fun b => by simp]
    simp
theorem blk_of {b : Nat} {w w' : World} {g : Nat} {o : Obj} (h : w.heap[g]? = some o) (hb : Below b w w') (hg : g < b) : w'.heap[g]? = some o := (hb.block g hg).trans h
theorem blk_lt {w : World} {g : Nat} {o : Obj} (h : w.heap[g]? = some o) : g < w.heap.size := (Array.getElem?_eq_some_iff.1 h).1
def spec_l16Head.l0 : Nat → ByteArray → Int → ByteArray → ByteArray → Int → List ByteArray → ByteArray → Int → Option (ByteArray)
  | 0, _, _, _, _, _, _, _, _ => none
  | k + 1, x3, x4, x127000, x127001, x127002, x127003, x127004, x127005 => if x4 < (x127003.length : Int) then (if 0 ≤ x4 then (if 4 + (rdOf ByteArray.empty x127003 x4).size ≤ 9223372036854775807 then (if ((⟨#[114, 101, 102, 32]⟩ : ByteArray) ++ (rdOf ByteArray.empty x127003 x4)).size + 1 ≤ 9223372036854775807 then (if x3.size + (((⟨#[114, 101, 102, 32]⟩ : ByteArray) ++ (rdOf ByteArray.empty x127003 x4)) ++ (⟨#[10]⟩ : ByteArray)).size ≤ 140737488355328 then (spec_l16Head.l0 k (x3 ++ (((⟨#[114, 101, 102, 32]⟩ : ByteArray) ++ (rdOf ByteArray.empty x127003 x4)) ++ (⟨#[10]⟩ : ByteArray))) (wrap64 (x4 + 1)) x127000 x127001 x127002 x127003 x127004 x127005) else (none)) else (none)) else (none)) else (none)) else (some x3)
def spec_l16Head.f (k : Nat) (a0_0 : ByteArray) (a0_1 : ByteArray) (a0_2 : Int) (l0_3 : List ByteArray) (a0_4 : ByteArray) (a0_5 : Int) : Option (ByteArray) := if 5 + a0_0.size ≤ 9223372036854775807 then (if ((⟨#[112, 97, 116, 104, 32]⟩ : ByteArray) ++ a0_0).size + 5 ≤ 9223372036854775807 then (if (((⟨#[112, 97, 116, 104, 32]⟩ : ByteArray) ++ a0_0) ++ (⟨#[10, 115, 117, 109, 32]⟩ : ByteArray)).size + a0_1.size ≤ 9223372036854775807 then (if ((((⟨#[112, 97, 116, 104, 32]⟩ : ByteArray) ++ a0_0) ++ (⟨#[10, 115, 117, 109, 32]⟩ : ByteArray)) ++ a0_1).size + 6 ≤ 9223372036854775807 then ((spec_l2Int.f k a0_2).bind fun t127 => (if (((((⟨#[112, 97, 116, 104, 32]⟩ : ByteArray) ++ a0_0) ++ (⟨#[10, 115, 117, 109, 32]⟩ : ByteArray)) ++ a0_1) ++ (⟨#[10, 115, 105, 122, 101, 32]⟩ : ByteArray)).size + t127.size ≤ 9223372036854775807 then (if ((((((⟨#[112, 97, 116, 104, 32]⟩ : ByteArray) ++ a0_0) ++ (⟨#[10, 115, 117, 109, 32]⟩ : ByteArray)) ++ a0_1) ++ (⟨#[10, 115, 105, 122, 101, 32]⟩ : ByteArray)) ++ t127).size + 1 ≤ 9223372036854775807 then (spec_l16Head.l0 k (((((((⟨#[112, 97, 116, 104, 32]⟩ : ByteArray) ++ a0_0) ++ (⟨#[10, 115, 117, 109, 32]⟩ : ByteArray)) ++ a0_1) ++ (⟨#[10, 115, 105, 122, 101, 32]⟩ : ByteArray)) ++ t127) ++ (⟨#[10]⟩ : ByteArray)) 0 a0_0 a0_1 a0_2 l0_3 a0_4 a0_5) else (none)) else (none))) else (none)) else (none)) else (none)) else (none)
theorem spec_l16Head.mono_l : ∀ k, (∀ y0 y1 y2 y3 y4 y5 y6 y7, LeO (spec_l16Head.l0 k y0 y1 y2 y3 y4 y5 y6 y7) (spec_l16Head.l0 (k + 1) y0 y1 y2 y3 y4 y5 y6 y7))
  | 0 => fun _ _ _ _ _ _ _ _ r h => by simp [spec_l16Head.l0] at h
  | k + 1 => by
    have ih0 := spec_l16Head.mono_l k
    · intro y0 y1 y2 y3 y4 y5 y6 y7
      unfold spec_l16Head.l0
      repeat' first
      | (with_reducible exact ih0 _ _ _ _ _ _ _ _)
      | (with_reducible exact spec_l2Int.mono _ _)
      | (with_reducible exact LeO.refl _)
      | (with_reducible exact LeO.none _)
      | (with_reducible refine LeO.ite ?_ ?_)
      | (with_reducible refine LeO.bind ?_ (fun _ => ?_))
      | exact ih0 _ _ _ _ _ _ _ _
      | exact spec_l2Int.mono _ _
      | exact LeO.none _
      | refine LeO.ite ?_ ?_
      | refine LeO.bind ?_ (fun _ => ?_)
theorem spec_l16Head.mono : ∀ a0 a1 a2 a3 a4 a5 k, LeO (spec_l16Head.f k a0 a1 a2 a3 a4 a5) (spec_l16Head.f (k + 1) a0 a1 a2 a3 a4 a5) := by
  intro a0 a1 a2 a3 a4 a5 k
  have ih0 := spec_l16Head.mono_l k
  unfold spec_l16Head.f
  repeat' first
      | (with_reducible exact ih0 _ _ _ _ _ _ _ _)
      | (with_reducible exact spec_l2Int.mono _ _)
      | (with_reducible exact LeO.refl _)
      | (with_reducible exact LeO.none _)
      | (with_reducible refine LeO.ite ?_ ?_)
      | (with_reducible refine LeO.bind ?_ (fun _ => ?_))
      | exact ih0 _ _ _ _ _ _ _ _
      | exact spec_l2Int.mono _ _
      | exact LeO.none _
      | refine LeO.ite ?_ ?_
      | refine LeO.bind ?_ (fun _ => ?_)
def spec_l16Head.T1 : Bool × List (List Nat × List Nat) := (true, [([], []), ([0], [0]), ([1], [1]), ([2], [2]), ([], []), ([4], [4]), ([3, 5], [3, 5]), ([6], [6]), ([], []), ([8], [8]), ([9], [9]), ([7, 10], [7, 10]), ([11], [11]), ([12], [12]), ([13, 10, 0, 1, 2, 3, 4, 5, 6, 7, 8, 9, 10, 11, 12, 13], [13])])
def spec_l16Head.B1 : List Nat := [0, 1, 3, 7, 0, 16, 63, 127, 0, 256, 768, 2047, 4095, 8191, 16383]
theorem spec_l16Head.tab1 : rtab .any (opsOf Tryd.f50 1) = spec_l16Head.T1 := by kernel_rfl
theorem spec_l16Head.bits1 : waitsOk spec_l16Head.T1.2 spec_l16Head.B1 = true := by kernel_rfl
set_option maxHeartbeats 8000000 in
set_option maxRecDepth 100000 in
theorem spec_l16Head.calls (k : Nat) (a0_0 : ByteArray) (a0_1 : ByteArray) (a0_2 : Int) (A0_3 : Option Addr) (c0_3 : Nat) (l0_3 : List ByteArray) (a0_4 : ByteArray) (a0_5 : Int) (r : ByteArray) (w : World) (hr0_3 : Kd.C Kd.string w A0_3 l0_3.length l0_3) (hc0_3 : l0_3.length ≤ c0_3) (h : spec_l16Head.f k a0_0 a0_1 a0_2 l0_3 a0_4 a0_5 = some r) :
    Calls Tryd.prog 50 #[.agg #[.string a0_0, .string a0_1, .int .i64 a0_2, .slice A0_3 l0_3.length c0_3, .string a0_4, .int .u64 a0_5]] w fun e w' => e = .returned (.string r) ∧ Below w.heap.size w w' := by
  have hu36 := Tryd.underlying36
  have HR0_3 := Aside0.mk hr0_3
  have HC0_3 := Aside0.mk hc0_3
  clear hr0_3 hc0_3
  have HB := Aside0.mk (Below.refl w.heap.size w)
  have H : (if 5 + a0_0.size ≤ 9223372036854775807 then (if ((⟨#[112, 97, 116, 104, 32]⟩ : ByteArray) ++ a0_0).size + 5 ≤ 9223372036854775807 then (if (((⟨#[112, 97, 116, 104, 32]⟩ : ByteArray) ++ a0_0) ++ (⟨#[10, 115, 117, 109, 32]⟩ : ByteArray)).size + a0_1.size ≤ 9223372036854775807 then (if ((((⟨#[112, 97, 116, 104, 32]⟩ : ByteArray) ++ a0_0) ++ (⟨#[10, 115, 117, 109, 32]⟩ : ByteArray)) ++ a0_1).size + 6 ≤ 9223372036854775807 then ((spec_l2Int.f k a0_2).bind fun t127 => (if (((((⟨#[112, 97, 116, 104, 32]⟩ : ByteArray) ++ a0_0) ++ (⟨#[10, 115, 117, 109, 32]⟩ : ByteArray)) ++ a0_1) ++ (⟨#[10, 115, 105, 122, 101, 32]⟩ : ByteArray)).size + t127.size ≤ 9223372036854775807 then (if ((((((⟨#[112, 97, 116, 104, 32]⟩ : ByteArray) ++ a0_0) ++ (⟨#[10, 115, 117, 109, 32]⟩ : ByteArray)) ++ a0_1) ++ (⟨#[10, 115, 105, 122, 101, 32]⟩ : ByteArray)) ++ t127).size + 1 ≤ 9223372036854775807 then (spec_l16Head.l0 k (((((((⟨#[112, 97, 116, 104, 32]⟩ : ByteArray) ++ a0_0) ++ (⟨#[10, 115, 117, 109, 32]⟩ : ByteArray)) ++ a0_1) ++ (⟨#[10, 115, 105, 122, 101, 32]⟩ : ByteArray)) ++ t127) ++ (⟨#[10]⟩ : ByteArray)) 0 a0_0 a0_1 a0_2 l0_3 a0_4 a0_5) else (none)) else (none))) else (none)) else (none)) else (none)) else (none)) = some r := h
  clear h
  by_cases c2 : 5 + a0_0.size ≤ 9223372036854775807
  · rw [if_pos c2] at H
    have c2b0 := eq_true c2
    have c2b1 : decide (5 + a0_0.size ≤ 9223372036854775807) = true := decide_eq_true c2
    try have c2b2 : (9223372036854775807 < 5 + a0_0.size) = False := eq_false (Nat.not_lt.2 c2)
    try (have c2b3 := Nat.not_lt.2 c2; simp only [ByteArray.size_append, ByteArray.size_mk', List.size_toArray, List.length_cons, List.length_nil, Nat.zero_add, Nat.reduceAdd] at c2b3; replace c2b3 := eq_false c2b3)
    by_cases c3 : ((⟨#[112, 97, 116, 104, 32]⟩ : ByteArray) ++ a0_0).size + 5 ≤ 9223372036854775807
    · rw [if_pos c3] at H
      have c3b0 := eq_true c3
      have c3b1 : decide (((⟨#[112, 97, 116, 104, 32]⟩ : ByteArray) ++ a0_0).size + 5 ≤ 9223372036854775807) = true := decide_eq_true c3
      try have c3b2 : (9223372036854775807 < ((⟨#[112, 97, 116, 104, 32]⟩ : ByteArray) ++ a0_0).size + 5) = False := eq_false (Nat.not_lt.2 c3)
      try (have c3b3 := Nat.not_lt.2 c3; simp only [ByteArray.size_append, ByteArray.size_mk', List.size_toArray, List.length_cons, List.length_nil, Nat.zero_add, Nat.reduceAdd] at c3b3; replace c3b3 := eq_false c3b3)
      by_cases c4 : (((⟨#[112, 97, 116, 104, 32]⟩ : ByteArray) ++ a0_0) ++ (⟨#[10, 115, 117, 109, 32]⟩ : ByteArray)).size + a0_1.size ≤ 9223372036854775807
      · rw [if_pos c4] at H
        have c4b0 := eq_true c4
        have c4b1 : decide ((((⟨#[112, 97, 116, 104, 32]⟩ : ByteArray) ++ a0_0) ++ (⟨#[10, 115, 117, 109, 32]⟩ : ByteArray)).size + a0_1.size ≤ 9223372036854775807) = true := decide_eq_true c4
        try have c4b2 : (9223372036854775807 < (((⟨#[112, 97, 116, 104, 32]⟩ : ByteArray) ++ a0_0) ++ (⟨#[10, 115, 117, 109, 32]⟩ : ByteArray)).size + a0_1.size) = False := eq_false (Nat.not_lt.2 c4)
        try (have c4b3 := Nat.not_lt.2 c4; simp only [ByteArray.size_append, ByteArray.size_mk', List.size_toArray, List.length_cons, List.length_nil, Nat.zero_add, Nat.reduceAdd] at c4b3; replace c4b3 := eq_false c4b3)
        by_cases c5 : ((((⟨#[112, 97, 116, 104, 32]⟩ : ByteArray) ++ a0_0) ++ (⟨#[10, 115, 117, 109, 32]⟩ : ByteArray)) ++ a0_1).size + 6 ≤ 9223372036854775807
        · rw [if_pos c5] at H
          have c5b0 := eq_true c5
          have c5b1 : decide (((((⟨#[112, 97, 116, 104, 32]⟩ : ByteArray) ++ a0_0) ++ (⟨#[10, 115, 117, 109, 32]⟩ : ByteArray)) ++ a0_1).size + 6 ≤ 9223372036854775807) = true := decide_eq_true c5
          try have c5b2 : (9223372036854775807 < ((((⟨#[112, 97, 116, 104, 32]⟩ : ByteArray) ++ a0_0) ++ (⟨#[10, 115, 117, 109, 32]⟩ : ByteArray)) ++ a0_1).size + 6) = False := eq_false (Nat.not_lt.2 c5)
          try (have c5b3 := Nat.not_lt.2 c5; simp only [ByteArray.size_append, ByteArray.size_mk', List.size_toArray, List.length_cons, List.length_nil, Nat.zero_add, Nat.reduceAdd] at c5b3; replace c5b3 := eq_false c5b3)
          replace H := Option.bind_eq_some_iff.mp H
          obtain ⟨t127, A60, H⟩ := H
          replace H : (if (((((⟨#[112, 97, 116, 104, 32]⟩ : ByteArray) ++ a0_0) ++ (⟨#[10, 115, 117, 109, 32]⟩ : ByteArray)) ++ a0_1) ++ (⟨#[10, 115, 105, 122, 101, 32]⟩ : ByteArray)).size + t127.size ≤ 9223372036854775807 then (if ((((((⟨#[112, 97, 116, 104, 32]⟩ : ByteArray) ++ a0_0) ++ (⟨#[10, 115, 117, 109, 32]⟩ : ByteArray)) ++ a0_1) ++ (⟨#[10, 115, 105, 122, 101, 32]⟩ : ByteArray)) ++ t127).size + 1 ≤ 9223372036854775807 then (spec_l16Head.l0 k (((((((⟨#[112, 97, 116, 104, 32]⟩ : ByteArray) ++ a0_0) ++ (⟨#[10, 115, 117, 109, 32]⟩ : ByteArray)) ++ a0_1) ++ (⟨#[10, 115, 105, 122, 101, 32]⟩ : ByteArray)) ++ t127) ++ (⟨#[10]⟩ : ByteArray)) 0 a0_0 a0_1 a0_2 l0_3 a0_4 a0_5) else (none)) else (none)) = some r := H
          have A6 := Aside0.mk A60
          clear A60
          by_cases c7 : (((((⟨#[112, 97, 116, 104, 32]⟩ : ByteArray) ++ a0_0) ++ (⟨#[10, 115, 117, 109, 32]⟩ : ByteArray)) ++ a0_1) ++ (⟨#[10, 115, 105, 122, 101, 32]⟩ : ByteArray)).size + t127.size ≤ 9223372036854775807
          · rw [if_pos c7] at H
            have c7b0 := eq_true c7
            have c7b1 : decide ((((((⟨#[112, 97, 116, 104, 32]⟩ : ByteArray) ++ a0_0) ++ (⟨#[10, 115, 117, 109, 32]⟩ : ByteArray)) ++ a0_1) ++ (⟨#[10, 115, 105, 122, 101, 32]⟩ : ByteArray)).size + t127.size ≤ 9223372036854775807) = true := decide_eq_true c7
            try have c7b2 : (9223372036854775807 < (((((⟨#[112, 97, 116, 104, 32]⟩ : ByteArray) ++ a0_0) ++ (⟨#[10, 115, 117, 109, 32]⟩ : ByteArray)) ++ a0_1) ++ (⟨#[10, 115, 105, 122, 101, 32]⟩ : ByteArray)).size + t127.size) = False := eq_false (Nat.not_lt.2 c7)
            try (have c7b3 := Nat.not_lt.2 c7; simp only [ByteArray.size_append, ByteArray.size_mk', List.size_toArray, List.length_cons, List.length_nil, Nat.zero_add, Nat.reduceAdd] at c7b3; replace c7b3 := eq_false c7b3)
            by_cases c8 : ((((((⟨#[112, 97, 116, 104, 32]⟩ : ByteArray) ++ a0_0) ++ (⟨#[10, 115, 117, 109, 32]⟩ : ByteArray)) ++ a0_1) ++ (⟨#[10, 115, 105, 122, 101, 32]⟩ : ByteArray)) ++ t127).size + 1 ≤ 9223372036854775807
            · rw [if_pos c8] at H
              have c8b0 := eq_true c8
              have c8b1 : decide (((((((⟨#[112, 97, 116, 104, 32]⟩ : ByteArray) ++ a0_0) ++ (⟨#[10, 115, 117, 109, 32]⟩ : ByteArray)) ++ a0_1) ++ (⟨#[10, 115, 105, 122, 101, 32]⟩ : ByteArray)) ++ t127).size + 1 ≤ 9223372036854775807) = true := decide_eq_true c8
              try have c8b2 : (9223372036854775807 < ((((((⟨#[112, 97, 116, 104, 32]⟩ : ByteArray) ++ a0_0) ++ (⟨#[10, 115, 117, 109, 32]⟩ : ByteArray)) ++ a0_1) ++ (⟨#[10, 115, 105, 122, 101, 32]⟩ : ByteArray)) ++ t127).size + 1) = False := eq_false (Nat.not_lt.2 c8)
              try (have c8b3 := Nat.not_lt.2 c8; simp only [ByteArray.size_append, ByteArray.size_mk', List.size_toArray, List.length_cons, List.length_nil, Nat.zero_add, Nat.reduceAdd] at c8b3; replace c8b3 := eq_false c8b3)
              have H' := Aside0.mk H
              clear H
              go_enter Tryd.func50, Tryd.ntmps50
              try go_wp2_with (first | ((with_reducible refine gate_dst (N := 1) rfl ?_); refine box_event ?hg (N := 1) ?hd (cs := #[.string a0_0, .string a0_1, .int .i64 a0_2, .slice A0_3 l0_3.length c0_3, .string a0_4, .int .u64 a0_5]) (t := 36) ?hr ?_; (case hd => rfl); (case hg => rfl); (case hr => first | (go_simp; done) | (go_simp; rfl)); intro gb126 hg w9 hbox hb; have n0_ := Aside0.mk (below_step (by repeat (first | (with_reducible first | exact HB.out | apply below_alloc | apply pw_below_drewN | apply below_drew1) | exact HB.out)) hb); have n1_ := Aside0.mk (hbox); have n2_ := Aside0.mk ((by rw [hg]; exact (below_size (by repeat (first | (with_reducible first | exact HB.out | apply below_alloc | apply pw_below_drewN | apply below_drew1) | exact HB.out))) : w.heap.size ≤ gb126)); have n3_ := Aside0.mk ((by rw [hg]; exact (below_size (by repeat (first | (with_reducible first | exact HB.out | apply below_alloc | apply pw_below_drewN | apply below_drew1) | exact HB.out))) : w.heap.size ≤ gb126)); clear HB; have HB := n0_; have BK126 := n1_; have GW126 := n2_; have GE126 := n3_; clear n0_ n1_ n2_ n3_; clear hb hbox hg))
              have n0_ := Aside0.mk (blk_drew BK126.out)
              have n1_ := Aside0.mk (below_drew1 HB.out)
              clear BK126
              clear HB
              have BK126 := n0_
              have HB := n1_
              clear n0_ n1_
              refine start_ (n := 15) (S := fun w' => w'.cell? ⟨gb126, 0, none⟩ = some (.string a0_0) ∧ w'.cell? ⟨gb126, 1, none⟩ = some (.string a0_1) ∧ w'.cell? ⟨gb126, 2, none⟩ = some (.int .i64 a0_2) ∧ w'.cell? ⟨gb126, 3, none⟩ = some (.slice A0_3 l0_3.length c0_3) ∧ w'.cell? ⟨gb126, 4, none⟩ = some (.string a0_4) ∧ w'.cell? ⟨gb126, 5, none⟩ = some (.int .u64 a0_5)) (ds := []) #[false, false, false, false, false, false, false, false, false, false, false, false, false, false, false] (by kernel_rfl) rfl rfl ⟨(blk_cell BK126.out 0).trans rfl, (blk_cell BK126.out 1).trans rfl, (blk_cell BK126.out 2).trans rfl, (blk_cell BK126.out 3).trans rfl, (blk_cell BK126.out 4).trans rfl, (blk_cell BK126.out 5).trans rfl⟩ (fun hHeld => ?_); refine with_tabW spec_l16Head.tab1 spec_l16Head.bits1 (fun HT_ HW_ => ?_)
              generalize w9.drew = w10 at BK126 HB hHeld ⊢
              refine pure_ (i := 0) (N := some 5) (v := ?_) (a' := ?_) #[true, false, false, false, false, false, false, false, false, false, false, false, false, false, false] rfl rfl (any_of HT_.out (by kernel_rfl)) (fun _ _ _ h => h) (Or.inl ⟨by rfl, ?_⟩) ?_ ?_
              rotate_left
              · intro w'
                go_simp
                with_reducible rfl
              rotate_left
              · simp only [Act.put, List.setIfInBounds_toArray, List.set_cons_zero, List.set_cons_succ, i64_w, i32_w]
                rfl
              refine pure_ (i := 4) (N := some 9) (v := ?_) (a' := ?_) #[true, false, false, false, true, false, false, false, false, false, false, false, false, false, false] rfl rfl (any_of HT_.out (by kernel_rfl)) (fun _ _ _ h => h) (Or.inl ⟨by rfl, ?_⟩) ?_ ?_
              rotate_left
              · intro w'
                go_simp
                with_reducible rfl
              rotate_left
              · simp only [Act.put, List.setIfInBounds_toArray, List.set_cons_zero, List.set_cons_succ, i64_w, i32_w]
                rfl
              refine pure_ (i := 8) (N := some 13) (v := ?_) (a' := ?_) #[true, false, false, false, true, false, false, false, true, false, false, false, false, false, false] rfl rfl (any_of HT_.out (by kernel_rfl)) (fun _ _ _ h => h) (Or.inl ⟨by rfl, ?_⟩) ?_ ?_
              rotate_left
              · intro w'
                go_simp
                with_reducible rfl
              rotate_left
              · simp only [Act.put, List.setIfInBounds_toArray, List.set_cons_zero, List.set_cons_succ, i64_w, i32_w]
                rfl
              refine take_ (i := 1) (N := some 6) (v := ?_) (a' := ?_) #[true, true, false, false, true, false, false, false, true, false, false, false, false, false, false] rfl rfl (take_ofW HT_.out HW_.out (by kernel_rfl)) (fun _ _ _ h => h) (Or.inl ⟨by rfl, ?_⟩) hHeld ?_ ?_
              rotate_left
              · rintro w' ⟨s0, s1, s2, s3, s4, s5⟩
                go_simp
                with_reducible rfl
              rotate_left
              · simp only [Act.put, List.setIfInBounds_toArray, List.set_cons_zero, List.set_cons_succ, i64_w, i32_w]
                rfl
              refine pure_ (i := 2) (N := some 7) (v := ?_) (a' := ?_) #[true, true, true, false, true, false, false, false, true, false, false, false, false, false, false] rfl rfl (any_of HT_.out (by kernel_rfl)) (fun _ _ _ h => h) (Or.inl ⟨by rfl, ?_⟩) ?_ ?_
              rotate_left
              · intro w'
                go_simp
                with_reducible rfl
              rotate_left
              · simp only [Act.put, List.setIfInBounds_toArray, List.set_cons_zero, List.set_cons_succ, i64_w, i32_w]
                rfl
              refine pure_ (i := 3) (N := some 8) (v := ?_) (a' := ?_) #[true, true, true, true, true, false, false, false, true, false, false, false, false, false, false] rfl rfl (any_of HT_.out (by kernel_rfl)) (fun _ _ _ h => h) (Or.inl ⟨by rfl, ?_⟩) ?_ ?_
              rotate_left
              · intro w'
                go_simp
                with_reducible rfl
              rotate_left
              · simp only [Act.put, List.setIfInBounds_toArray, List.set_cons_zero, List.set_cons_succ, i64_w, i32_w]
                rfl
              refine take_ (i := 5) (N := some 10) (v := ?_) (a' := ?_) #[true, true, true, true, true, true, false, false, true, false, false, false, false, false, false] rfl rfl (take_ofW HT_.out HW_.out (by kernel_rfl)) (fun _ _ _ h => h) (Or.inl ⟨by rfl, ?_⟩) hHeld ?_ ?_
              rotate_left
              · rintro w' ⟨s0, s1, s2, s3, s4, s5⟩
                go_simp
                with_reducible rfl
              rotate_left
              · simp only [Act.put, List.setIfInBounds_toArray, List.set_cons_zero, List.set_cons_succ, i64_w, i32_w]
                rfl
              refine pure_ (i := 6) (N := some 11) (v := ?_) (a' := ?_) #[true, true, true, true, true, true, true, false, true, false, false, false, false, false, false] rfl rfl (any_of HT_.out (by kernel_rfl)) (fun _ _ _ h => h) (Or.inl ⟨by rfl, ?_⟩) ?_ ?_
              rotate_left
              · intro w'
                go_simp
                with_reducible rfl
              rotate_left
              · simp only [Act.put, List.setIfInBounds_toArray, List.set_cons_zero, List.set_cons_succ, i64_w, i32_w]
                rfl
              refine pure_ (i := 7) (N := some 12) (v := ?_) (a' := ?_) #[true, true, true, true, true, true, true, true, true, false, false, false, false, false, false] rfl rfl (any_of HT_.out (by kernel_rfl)) (fun _ _ _ h => h) (Or.inl ⟨by rfl, ?_⟩) ?_ ?_
              rotate_left
              · intro w'
                go_simp
                with_reducible rfl
              rotate_left
              · simp only [Act.put, List.setIfInBounds_toArray, List.set_cons_zero, List.set_cons_succ, i64_w, i32_w]
                rfl
              refine take_ (i := 9) (N := some 14) (v := ?_) (a' := ?_) #[true, true, true, true, true, true, true, true, true, true, false, false, false, false, false] rfl rfl (take_ofW HT_.out HW_.out (by kernel_rfl)) (fun _ _ _ h => h) (Or.inl ⟨by rfl, ?_⟩) hHeld ?_ ?_
              rotate_left
              · rintro w' ⟨s0, s1, s2, s3, s4, s5⟩
                go_simp
                with_reducible rfl
              rotate_left
              · simp only [Act.put, List.setIfInBounds_toArray, List.set_cons_zero, List.set_cons_succ, i64_w, i32_w]
                rfl
              refine one_ (i := 10) (N := some 15) #[true, true, true, true, true, true, true, true, true, true, true, false, false, false, false] rfl rfl (one_of HT_.out (by kernel_rfl)) (by decide) (fun K hK => ?_)
              refine goes_ Tryd.func82 (by kernel_rfl) rfl #[.int .i64 a0_2] (by rfl) rfl rfl (by (try simp only [List.map_toArray, List.map_cons, List.map_nil]); first | done | rfl | (simp only [List.length_drop, List.length_take]; rfl)) ?_
              with_reducible refine (spec_l2Int.calls k a0_2 t127 _ A6.out).mono ?_
              rintro e w11 ⟨rfl, hb⟩
              refine ⟨_, rfl, ?_⟩
              have n0_ := Aside0.mk (blk_below (g := gb126) (o := .cells #[.string a0_0, .string a0_1, .int .i64 a0_2, .slice A0_3 l0_3.length c0_3, .string a0_4, .int .u64 a0_5] 36 (0, 0)) (by (with_reducible repeat (first | refine blk_drewN ?_ _ | refine blk_drew ?_ | refine blk_alloc ?_ _)); exact BK126.out) hb)
              have n1_ := Aside0.mk (below_step (by repeat (first | (with_reducible first | exact HB.out | apply below_alloc | apply pw_below_drewN | apply below_drew1 | refine below_set ?_ GE126.out) | exact HB.out)) hb)
              clear BK126
              clear HB
              have BK126 := n0_
              have HB := n1_
              clear n0_ n1_
              (try clear hb)
              (try clear hb2)
              (try clear hk)
              (try clear hi)
              refine hK.out _ _ ⟨(blk_cell BK126.out 0).trans rfl, (blk_cell BK126.out 1).trans rfl, (blk_cell BK126.out 2).trans rfl, (blk_cell BK126.out 3).trans rfl, (blk_cell BK126.out 4).trans rfl, (blk_cell BK126.out 5).trans rfl⟩ (fun hHeld => ?_)
              clear hK K
              refine norm_ (a' := ?_) ?_ ?_
              rotate_left
              · show Act.put _ (some 15) _ = _
                simp only [Act.put, List.setIfInBounds_toArray, List.set_cons_zero, List.set_cons_succ, i64_w, i32_w]
                rfl
              refine pure_ (i := 11) (N := some 16) (v := ?_) (a' := ?_) #[true, true, true, true, true, true, true, true, true, true, true, true, false, false, false] rfl rfl (any_of HT_.out (by kernel_rfl)) (fun _ _ _ h => h) (Or.inl ⟨by rfl, ?_⟩) ?_ ?_
              rotate_left
              · intro w'
                go_simp
                with_reducible rfl
              rotate_left
              · simp only [Act.put, List.setIfInBounds_toArray, List.set_cons_zero, List.set_cons_succ, i64_w, i32_w]
                rfl
              refine pure_ (i := 12) (N := some 17) (v := ?_) (a' := ?_) #[true, true, true, true, true, true, true, true, true, true, true, true, true, false, false] rfl rfl (any_of HT_.out (by kernel_rfl)) (fun _ _ _ h => h) (Or.inl ⟨by rfl, ?_⟩) ?_ ?_
              rotate_left
              · intro w'
                go_simp
                with_reducible rfl
              rotate_left
              · simp only [Act.put, List.setIfInBounds_toArray, List.set_cons_zero, List.set_cons_succ, i64_w, i32_w]
                rfl
              refine one_ (i := 13) (N := some 18) #[true, true, true, true, true, true, true, true, true, true, true, true, true, true, false] rfl rfl (one_of HT_.out (by kernel_rfl)) (by decide) (fun K hK => ?_)
              refine conv_one (by rfl) rfl (.tmp 17) rfl (by rfl) Tryd.underlying9 Tryd.underlying101 Tryd.underlying5 (by have := c8; simp only [ByteArray.size_append, ByteArray.size_mk', List.size_toArray, List.length_cons, List.length_nil] at this ⊢; omega) fun g1 d1 w12 hb hR1 => ?_
              have HGB := Aside0.mk (blk_lt BK126.out)
              have HW11 := Aside0.mk (below_size HB.out)
              have n0_ := Aside0.mk (blk_below (g := gb126) (o := .cells #[.string a0_0, .string a0_1, .int .i64 a0_2, .slice A0_3 l0_3.length c0_3, .string a0_4, .int .u64 a0_5] 36 (0, 0)) BK126.out hb)
              have n1_ := Aside0.mk (below_step HB.out hb)
              have HSZ := Aside0.mk hb.size
              have HR := Aside0.mk (hR1.raise (Nat.le_refl _))
              have HLN := Aside0.mk (show (bytesL (((((((⟨#[112, 97, 116, 104, 32]⟩ : ByteArray) ++ a0_0) ++ (⟨#[10, 115, 117, 109, 32]⟩ : ByteArray)) ++ a0_1) ++ (⟨#[10, 115, 105, 122, 101, 32]⟩ : ByteArray)) ++ t127) ++ (⟨#[10]⟩ : ByteArray))).length ≤ 9223372036854775807 from by rw [bytesL_length]; have := c8; simp only [ByteArray.size_append, ByteArray.size_mk', List.size_toArray, List.length_cons, List.length_nil] at this ⊢; omega)
              clear BK126
              clear HB
              have BK126 := n0_
              have HB := n1_
              clear n0_ n1_
              clear hb hR1
              refine hK.out _ _ ⟨(blk_cell BK126.out 0).trans rfl, (blk_cell BK126.out 1).trans rfl, (blk_cell BK126.out 2).trans rfl, (blk_cell BK126.out 3).trans rfl, (blk_cell BK126.out 4).trans rfl, (blk_cell BK126.out 5).trans rfl⟩ (fun hHeld => ?_)
              clear hK K
              refine norm_ (a' := ?_) ?_ ?_
              rotate_left
              · show Act.put _ (some 18) _ = _
                simp only [Act.put, List.setIfInBounds_toArray, List.set_cons_zero, List.set_cons_succ, i64_w, i32_w]
                rfl
              refine pure_ (i := 14) (N := some 3) (v := ?_) (a' := ?_) #[true, true, true, true, true, true, true, true, true, true, true, true, true, true, true] rfl rfl (any_of HT_.out (by kernel_rfl)) (fun _ _ _ h => h) (Or.inl ⟨by rfl, ?_⟩) ?_ ?_
              rotate_left
              · intro w'
                go_simp
                with_reducible rfl
              rotate_left
              · simp only [Act.put, List.setIfInBounds_toArray, List.set_cons_zero, List.set_cons_succ, i64_w, i32_w]
                rfl
              refine done_ (done_of HT_.out (by kernel_rfl)) ?_
              try go_wp2
              go_loopg [3, 4] k (fun kq v3 v4 w' => ∃ (x3_1 : ByteArray) (x4_1 : Int), Aside0 (RowB 5 w' w11.heap.size v3 (bytesL x3_1)) ∧ Aside0 (w11.heap.size ≤ w'.heap.size) ∧ Aside0 ((bytesL x3_1).length ≤ 9223372036854775807) ∧ v4 = .int .i64 x4_1 ∧ Aside0 (spec_l16Head.l0 kq x3_1 x4_1 a0_0 a0_1 a0_2 l0_3 a0_4 a0_5 = some r) ∧ Aside0 (kq ≤ k) ∧ Aside0 (w'.heap[gb126]? = some (.cells #[.string a0_0, .string a0_1, .int .i64 a0_2, (.slice A0_3 l0_3.length c0_3), .string a0_4, .int .u64 a0_5] 36 (0, 0))) ∧ Aside0 (Below w.heap.size w w'))
              case atStart => exact ⟨(((((((⟨#[112, 97, 116, 104, 32]⟩ : ByteArray) ++ a0_0) ++ (⟨#[10, 115, 117, 109, 32]⟩ : ByteArray)) ++ a0_1) ++ (⟨#[10, 115, 105, 122, 101, 32]⟩ : ByteArray)) ++ t127) ++ (⟨#[10]⟩ : ByteArray)), (0), HR, HSZ, HLN, (by first | rfl | (simp; done) | (simp [*]; done) | (simp; (generalize ByteArray.toList _ = q; cases q <;> rfl))), H', ⟨Nat.le_refl _⟩, ⟨by (with_reducible repeat (first | refine blk_drewN ?_ _ | refine blk_drew ?_ | refine blk_alloc ?_ _)); exact BK126.out⟩, ⟨by repeat (first | (with_reducible first | exact HB.out | apply below_alloc | apply pw_below_drewN | apply below_drew1 | refine below_set ?_ GE126.out) | exact HB.out)⟩⟩
              case round =>
                clear H' HR HSZ HLN
                try clear c2
                try clear c2b0
                try clear c2b1
                try clear c2b2
                try clear p2
                try clear c3
                try clear c3b0
                try clear c3b1
                try clear c3b2
                try clear c4
                try clear c4b0
                try clear c4b1
                try clear c4b2
                try clear c5
                try clear c5b0
                try clear c5b1
                try clear c5b2
                try clear c7
                try clear c7b0
                try clear c7b1
                try clear c7b2
                try clear c8
                try clear c8b0
                try clear c8b1
                try clear c8b2
                obtain ⟨x3_1, x4_1, HR, HSZ, HLN, rfl, HA, HK1, BK126, HB⟩ := hrel
                cases gk with
                | zero => exact absurd HA.out (by simp [spec_l16Head.l0])
                | succ k1 =>
                  have H := HA.out
                  clear HA
                  simp only [spec_l16Head.l0] at H
                  by_cases c12 : x4_1 < (l0_3.length : Int)
                  · rw [if_pos c12] at H
                    have c12b0 : decide (x4_1 < (l0_3.length : Int)) = true := decide_eq_true c12
                    clear c12
                    by_cases c13 : 0 ≤ x4_1
                    · rw [if_pos c13] at H
                      have c13b0 : decide (0 ≤ x4_1) = true := decide_eq_true c13
                      clear c13
                      by_cases c14 : 4 + (rdOf ByteArray.empty l0_3 x4_1).size ≤ 9223372036854775807
                      · rw [if_pos c14] at H
                        have c14b0 := eq_true c14
                        have c14b1 : decide (4 + (rdOf ByteArray.empty l0_3 x4_1).size ≤ 9223372036854775807) = true := decide_eq_true c14
                        try have c14b2 : (9223372036854775807 < 4 + (rdOf ByteArray.empty l0_3 x4_1).size) = False := eq_false (Nat.not_lt.2 c14)
                        try (have c14b3 := Nat.not_lt.2 c14; simp only [ByteArray.size_append, ByteArray.size_mk', List.size_toArray, List.length_cons, List.length_nil, Nat.zero_add, Nat.reduceAdd] at c14b3; replace c14b3 := eq_false c14b3)
                        by_cases c15 : ((⟨#[114, 101, 102, 32]⟩ : ByteArray) ++ (rdOf ByteArray.empty l0_3 x4_1)).size + 1 ≤ 9223372036854775807
                        · rw [if_pos c15] at H
                          have c15b0 := eq_true c15
                          have c15b1 : decide (((⟨#[114, 101, 102, 32]⟩ : ByteArray) ++ (rdOf ByteArray.empty l0_3 x4_1)).size + 1 ≤ 9223372036854775807) = true := decide_eq_true c15
                          try have c15b2 : (9223372036854775807 < ((⟨#[114, 101, 102, 32]⟩ : ByteArray) ++ (rdOf ByteArray.empty l0_3 x4_1)).size + 1) = False := eq_false (Nat.not_lt.2 c15)
                          try (have c15b3 := Nat.not_lt.2 c15; simp only [ByteArray.size_append, ByteArray.size_mk', List.size_toArray, List.length_cons, List.length_nil, Nat.zero_add, Nat.reduceAdd] at c15b3; replace c15b3 := eq_false c15b3)
                          by_cases c16 : x3_1.size + (((⟨#[114, 101, 102, 32]⟩ : ByteArray) ++ (rdOf ByteArray.empty l0_3 x4_1)) ++ (⟨#[10]⟩ : ByteArray)).size ≤ 140737488355328
                          · rw [if_pos c16] at H
                            have c16b0 := eq_true c16
                            have c16b1 : decide (x3_1.size + (((⟨#[114, 101, 102, 32]⟩ : ByteArray) ++ (rdOf ByteArray.empty l0_3 x4_1)) ++ (⟨#[10]⟩ : ByteArray)).size ≤ 140737488355328) = true := decide_eq_true c16
                            try have c16b2 : (9223372036854775807 < x3_1.size + (((⟨#[114, 101, 102, 32]⟩ : ByteArray) ++ (rdOf ByteArray.empty l0_3 x4_1)) ++ (⟨#[10]⟩ : ByteArray)).size) = False := eq_false (Nat.not_lt.2 c16)
                            try (have c16b3 := Nat.not_lt.2 c16; simp only [ByteArray.size_append, ByteArray.size_mk', List.size_toArray, List.length_cons, List.length_nil, Nat.zero_add, Nat.reduceAdd] at c16b3; replace c16b3 := eq_false c16b3)
                            have H' := Aside0.mk H
                            clear H
                            have hcz17_0 : wr.cell? ⟨gb126, 0, none⟩ = some (.string a0_0) := (blk_cell BK126.out 0).trans rfl
                            have hcz17_1 : wr.cell? ⟨gb126, 1, none⟩ = some (.string a0_1) := (blk_cell BK126.out 1).trans rfl
                            have hcz17_2 : wr.cell? ⟨gb126, 2, none⟩ = some (.int .i64 a0_2) := (blk_cell BK126.out 2).trans rfl
                            have hcz17_3 : wr.cell? ⟨gb126, 3, none⟩ = some (.slice A0_3 l0_3.length c0_3) := (blk_cell BK126.out 3).trans rfl
                            have hcz17_4 : wr.cell? ⟨gb126, 4, none⟩ = some (.string a0_4) := (blk_cell BK126.out 4).trans rfl
                            have hcz17_5 : wr.cell? ⟨gb126, 5, none⟩ = some (.int .u64 a0_5) := (blk_cell BK126.out 5).trans rfl
                            have hfz17_0 := blk_frozen BK126.out 0
                            have hfz17_1 := blk_frozen BK126.out 1
                            have hfz17_2 := blk_frozen BK126.out 2
                            have hfz17_3 := blk_frozen BK126.out 3
                            have hfz17_4 := blk_frozen BK126.out 4
                            have hfz17_5 := blk_frozen BK126.out 5
                            have p128 : 0 ≤ (x4_1 : Int) := of_decide_eq_true (by first | (with_reducible assumption) | assumption)
                            have q128 : x4_1 < (l0_3.length : Int) := of_decide_eq_true (by first | (with_reducible assumption) | assumption)
                            obtain ⟨ad128, e128, hx128_0⟩ := Kd.at_string HR0_3.out x4_1 p128 q128
                            cases e128
                            try (replace hx128_0 := (HB.out.cell (World.block_lt_of_cell? w _ hx128_0)).trans hx128_0)
                            replace p128 := eq_true p128
                            replace q128 := eq_true q128
                            have HY := Aside0.mk (show (bytesL x3_1).length + (((⟨#[114, 101, 102, 32]⟩ : ByteArray) ++ (rdOf ByteArray.empty l0_3 x4_1)) ++ (⟨#[10]⟩ : ByteArray)).size ≤ 140737488355328 from by rw [bytesL_length]; exact c16)
                            try clear c16
                            try clear c16b0
                            try clear c16b1
                            try clear c16b2
                            try clear c16b3
                            go_wp2_with (at_builtin; go_loud (refine RowB.append_str_wp w11.heap.size rfl (.tmp 26) (.tmp 33) 101 9 5 rfl Tryd.underlying101 Tryd.underlying9 (by kernel_rfl) HR.out rfl rfl HY.out HSZ.out ?_; intro v2 w2 hR2 hb2; have n0_ := Aside0.mk (show RowB 5 w2 w11.heap.size v2 (bytesL (x3_1 ++ (((⟨#[114, 101, 102, 32]⟩ : ByteArray) ++ (rdOf ByteArray.empty l0_3 x4_1)) ++ (⟨#[10]⟩ : ByteArray)))) from by rw [bytesL_append]; exact hR2); have n1_ := Aside0.mk (blk_of BK126.out hb2 HGB.out); have n2_ := Aside0.mk (HB.out.trans (hb2.mono HW11.out)); have n3_ := Aside0.mk (Nat.le_trans HSZ.out hb2.size); have HLN2 := Aside0.mk (show (bytesL (x3_1 ++ (((⟨#[114, 101, 102, 32]⟩ : ByteArray) ++ (rdOf ByteArray.empty l0_3 x4_1)) ++ (⟨#[10]⟩ : ByteArray)))).length ≤ 9223372036854775807 from by rw [bytesL_append, List.length_append]; have := HY.out; rw [bytesL_length (((⟨#[114, 101, 102, 32]⟩ : ByteArray) ++ (rdOf ByteArray.empty l0_3 x4_1)) ++ (⟨#[10]⟩ : ByteArray))]; omega); clear hR2 hb2 HR HB HSZ HLN BK126 HY; have HR2 := n0_; have HSZ2 := n3_; have HB := n2_; have BK126 := n1_; clear n0_ n1_ n2_ n3_))
                            go_roundg k1
                            case measure => have := HK1.out; omega
                            case rel => exact ⟨(x3_1 ++ (((⟨#[114, 101, 102, 32]⟩ : ByteArray) ++ (rdOf ByteArray.empty l0_3 x4_1)) ++ (⟨#[10]⟩ : ByteArray))), (wrap64 (x4_1 + 1)), HR2, HSZ2, HLN2, (by first | rfl | (simp; done) | (simp [*]; done) | (simp; (generalize ByteArray.toList _ = q; cases q <;> rfl))), H', ⟨by have := HK1.out; omega⟩, ⟨by (with_reducible repeat (first | refine blk_drewN ?_ _ | refine blk_drew ?_ | refine blk_alloc ?_ _)); exact BK126.out⟩, ⟨by repeat (first | (with_reducible first | exact HB.out | apply below_alloc | apply pw_below_drewN | apply below_drew1 | refine below_set ?_ GE126.out) | exact HB.out)⟩⟩
                          · rw [if_neg c16] at H
                            exact absurd H (by simp)
                        · rw [if_neg c15] at H
                          exact absurd H (by simp)
                      · rw [if_neg c14] at H
                        exact absurd H (by simp)
                    · rw [if_neg c13] at H
                      exact absurd H (by simp)
                  · rw [if_neg c12] at H
                    have c12b0 : decide (x4_1 < (l0_3.length : Int)) = false := decide_eq_false c12
                    clear c12
                    obtain rfl := Option.some.inj H
                    have hcz18_0 : wr.cell? ⟨gb126, 0, none⟩ = some (.string a0_0) := (blk_cell BK126.out 0).trans rfl
                    have hcz18_1 : wr.cell? ⟨gb126, 1, none⟩ = some (.string a0_1) := (blk_cell BK126.out 1).trans rfl
                    have hcz18_2 : wr.cell? ⟨gb126, 2, none⟩ = some (.int .i64 a0_2) := (blk_cell BK126.out 2).trans rfl
                    have hcz18_3 : wr.cell? ⟨gb126, 3, none⟩ = some (.slice A0_3 l0_3.length c0_3) := (blk_cell BK126.out 3).trans rfl
                    have hcz18_4 : wr.cell? ⟨gb126, 4, none⟩ = some (.string a0_4) := (blk_cell BK126.out 4).trans rfl
                    have hcz18_5 : wr.cell? ⟨gb126, 5, none⟩ = some (.int .u64 a0_5) := (blk_cell BK126.out 5).trans rfl
                    have hfz18_0 := blk_frozen BK126.out 0
                    have hfz18_1 := blk_frozen BK126.out 1
                    have hfz18_2 := blk_frozen BK126.out 2
                    have hfz18_3 := blk_frozen BK126.out 3
                    have hfz18_4 := blk_frozen BK126.out 4
                    have hfz18_5 := blk_frozen BK126.out 5
                    obtain ⟨Az, cz, ez, hlz, hCz⟩ := HR.out.reads HLN.out
                    have HS := Kd.C_string (P := Tryd.prog) (src := 101) (dst := 9) (e := 5) (c := cz) Tryd.underlying101 Tryd.underlying5 Tryd.underlying9 hCz
                    rw [strOfNums_bytesL] at HS
                    subst ez
                    clear hCz hlz HR HLN HSZ
                    go_wp2_with (rw [HS])
                    go_ret
                    exact ⟨by first | rfl | (simp [errW_none, errW_some] <;> rfl) | (simp [*, errW_none, errW_some] <;> rfl), by repeat (first | (with_reducible first | exact HB.out | apply below_alloc | apply pw_below_drewN | apply below_drew1 | refine below_set ?_ GE126.out) | exact HB.out)⟩
            · rw [if_neg c8] at H
              exact absurd H (by simp)
          · rw [if_neg c7] at H
            exact absurd H (by simp)
        · rw [if_neg c5] at H
          exact absurd H (by simp)
      · rw [if_neg c4] at H
        exact absurd H (by simp)
    · rw [if_neg c3] at H
      exact absurd H (by simp)
  · rw [if_neg c2] at H
    exact absurd H (by simp)

/-! ### spec_Word32: function 51 -/
def spec_Word32.l0 : Nat → Int → List Int → Int → Option (ByteArray)
  | 0, _, _, _ => none
  | k + 1, x0, x3, x4 => if x4 ≥ 0 then (if 0 ≤ (IntKind.u64.wrap (wrap64 (5 * x4))) then (if 0 ≤ (Go.bits .and .u64 (shr .u64 x0 (IntKind.u64.wrap (wrap64 (5 * x4)))) 31) then (if (Go.bits .and .u64 (shr .u64 x0 (IntKind.u64.wrap (wrap64 (5 * x4)))) 31) < 32 then (if x3.length < 140737488355328 then (spec_Word32.l0 k x0 (x3 ++ [bt (⟨#[48, 49, 50, 51, 52, 53, 54, 55, 56, 57, 97, 98, 99, 100, 102, 103, 104, 105, 106, 107, 108, 109, 110, 112, 113, 114, 115, 118, 119, 120, 121, 122]⟩ : ByteArray) (Go.bits .and .u64 (shr .u64 x0 (IntKind.u64.wrap (wrap64 (5 * x4)))) 31)]) (wrap64 (x4 - 1))) else (none)) else (none)) else (none)) else (none)) else (some (strOfNums x3))
def spec_Word32.f (k : Nat) (a0 : Int) : Option (ByteArray) := spec_Word32.l0 k a0 (([] : List Int)) 12
theorem spec_Word32.mono_l : ∀ k, (∀ y0 y1 y2, LeO (spec_Word32.l0 k y0 y1 y2) (spec_Word32.l0 (k + 1) y0 y1 y2))
  | 0 => fun _ _ _ r h => by simp [spec_Word32.l0] at h
  | k + 1 => by
    have ih0 := spec_Word32.mono_l k
    · intro y0 y1 y2
      unfold spec_Word32.l0
      repeat' first
      | (with_reducible exact ih0 _ _ _)
      | (with_reducible exact LeO.refl _)
      | (with_reducible exact LeO.none _)
      | (with_reducible refine LeO.ite ?_ ?_)
      | (with_reducible refine LeO.bind ?_ (fun _ => ?_))
      | exact ih0 _ _ _
      | exact LeO.none _
      | refine LeO.ite ?_ ?_
      | refine LeO.bind ?_ (fun _ => ?_)
theorem spec_Word32.mono : ∀ a0 k, LeO (spec_Word32.f k a0) (spec_Word32.f (k + 1) a0) := by
  intro a0 k
  have ih0 := spec_Word32.mono_l k
  unfold spec_Word32.f
  repeat' first
      | (with_reducible exact ih0 _ _ _)
      | (with_reducible exact LeO.refl _)
      | (with_reducible exact LeO.none _)
      | (with_reducible refine LeO.ite ?_ ?_)
      | (with_reducible refine LeO.bind ?_ (fun _ => ?_))
      | exact ih0 _ _ _
      | exact LeO.none _
      | refine LeO.ite ?_ ?_
      | refine LeO.bind ?_ (fun _ => ?_)
set_option maxHeartbeats 8000000 in
set_option maxRecDepth 100000 in
theorem spec_Word32.calls (k : Nat) (a0 : Int) (r : ByteArray) (w : World) (h : spec_Word32.f k a0 = some r) :
    Calls Tryd.prog 51 #[.int .u64 a0] w fun e w' => e = .returned (.string r) ∧ Below w.heap.size w w' := by
  have HB := Aside0.mk (Below.refl w.heap.size w)
  have H : (spec_Word32.l0 k a0 (([] : List Int)) 12) = some r := h
  clear h
  obtain ⟨y126, hy126⟩ : ∃ y_ : List Int, y_ = (([] : List Int)) := ⟨_, rfl⟩
  replace H : (spec_Word32.l0 k a0 y126 12) = some r := by first | (rw [hy126]; with_reducible exact H) | (have H2_ := (Option.bind_some _ _).symm.trans H; rw [hy126]; with_reducible exact H2_) | (have H2_ := (Option.bind_some _ _).symm.trans H; with_reducible exact H2_) | with_reducible exact H | (rw [hy126]; exact H) | exact H
  have Ny126 := Aside0.mk hy126
  clear hy126
  have H' := Aside0.mk H
  clear H
  go_enter Tryd.func51, Tryd.ntmps51
  go_wp2_with (first | ((with_reducible refine gate_dst (N := 5) rfl ?_); refine Kd.R_lit (Kd.int .u8) _ 5 ?hg (N := 5) ?hd (xs := ([] : List Int)) (inner := []) (ok := fun _ => True) (okp := fun _ => True) ?hr ?hp (fun _ hk => hk) trivial (Below.refl _ _) (Nat.le_refl _) (by simp) ?_; (case hd => rfl); (case hg => rfl); (case hr => first | (go_simp; done) | (go_simp; rfl)); (case hp => exact (Reps.none _ _)); intro v127 w2 ho3 hb hg_ hnew_; clear hg_ hnew_; (first | rw [← Ny126.out] at ho3 | (simp only [Int.reduceToNat] at ho3; rw [← Ny126.out] at ho3)); have n0_ := Aside0.mk (Kd.R_lower ho3 (below_size (by repeat (first | (with_reducible first | exact HB.out | apply below_alloc | apply pw_below_drewN | apply below_drew1) | exact HB.out)))); have n1_ := Aside0.mk (below_step (by repeat (first | (with_reducible first | exact HB.out | apply below_alloc | apply pw_below_drewN | apply below_drew1) | exact HB.out)) hb); clear HB; have HO128 := n0_; have HB := n1_; clear n0_ n1_; clear hb ho3))
  go_loopg [3, 4] k (fun kq v3 v4 w' => ∃ (x3_1 : List Int) (x4_1 : Int), v4 = .int .i64 x4_1 ∧ Aside0 (spec_Word32.l0 kq a0 x3_1 x4_1 = some r) ∧ Aside0 (kq ≤ k) ∧ Aside0 (Kd.R (Kd.int .u8) 5 w' w.heap.size (fun _ => True) v3 x3_1) ∧ Aside0 (Below w.heap.size w w'))
  case atStart => exact ⟨(y126), (12), (by first | rfl | (simp; done) | (simp [*]; done) | (simp; (generalize ByteArray.toList _ = q; cases q <;> rfl))), H', ⟨Nat.le_refl _⟩, ⟨by (with_reducible repeat (first | apply Kd.R_alloc | apply Kd.R_drewN | apply Kd.R_drew)); exact HO128.out⟩, ⟨by repeat (first | (with_reducible first | exact HB.out | apply below_alloc | apply pw_below_drewN | apply below_drew1) | exact HB.out)⟩⟩
  case round =>
    clear H'
    try clear p2
    obtain ⟨x3_1, x4_1, rfl, HA, HK1, HO_3, HB⟩ := hrel
    cases gk with
    | zero => exact absurd HA.out (by simp [spec_Word32.l0])
    | succ k1 =>
      have H := HA.out
      clear HA
      simp only [spec_Word32.l0] at H
      by_cases c4 : x4_1 ≥ 0
      · rw [if_pos c4] at H
        have c4b0 : decide (0 ≤ x4_1) = true := decide_eq_true c4
        clear c4
        obtain ⟨ji5, hji5⟩ : ∃ j_ : Int, (IntKind.u64.wrap (wrap64 (5 * x4_1))) = j_ := ⟨_, rfl⟩
        replace H : (if 0 ≤ (ji5) then (if 0 ≤ (Go.bits .and .u64 (shr .u64 a0 (ji5)) 31) then (if (Go.bits .and .u64 (shr .u64 a0 (ji5)) 31) < 32 then (if x3_1.length < 140737488355328 then (spec_Word32.l0 k1 a0 (x3_1 ++ [bt (⟨#[48, 49, 50, 51, 52, 53, 54, 55, 56, 57, 97, 98, 99, 100, 102, 103, 104, 105, 106, 107, 108, 109, 110, 112, 113, 114, 115, 118, 119, 120, 121, 122]⟩ : ByteArray) (Go.bits .and .u64 (shr .u64 a0 (ji5)) 31)]) (wrap64 (x4_1 - 1))) else (none)) else (none)) else (none)) else (none)) = some r := by first | (rw [hji5] at H; exact H) | (simp only [hji5] at H ⊢; exact H)
        by_cases c6 : 0 ≤ (ji5)
        · rw [if_pos c6] at H
          have c6b0 := eq_true c6
          have c6b1 : decide (0 ≤ (ji5)) = true := decide_eq_true c6
          clear c6
          obtain ⟨ji7, hji7⟩ : ∃ j_ : Int, (shr .u64 a0 (ji5)) = j_ := ⟨_, rfl⟩
          replace H : (if 0 ≤ (Go.bits .and .u64 (ji7) 31) then (if (Go.bits .and .u64 (ji7) 31) < 32 then (if x3_1.length < 140737488355328 then (spec_Word32.l0 k1 a0 (x3_1 ++ [bt (⟨#[48, 49, 50, 51, 52, 53, 54, 55, 56, 57, 97, 98, 99, 100, 102, 103, 104, 105, 106, 107, 108, 109, 110, 112, 113, 114, 115, 118, 119, 120, 121, 122]⟩ : ByteArray) (Go.bits .and .u64 (ji7) 31)]) (wrap64 (x4_1 - 1))) else (none)) else (none)) else (none)) = some r := by first | (rw [hji7] at H; exact H) | (simp only [hji7] at H ⊢; exact H)
          have hji7_ : (a0 / 2 ^ min (ji5).toNat 64) = ji7 := hji7
          have hji7z : (ji5) ≤ 64 → (a0 / 2 ^ (ji5).toNat) = ji7 := shr_small hji7
          by_cases c8 : 0 ≤ (Go.bits .and .u64 (ji7) 31)
          · rw [if_pos c8] at H
            have c8b0 : decide (0 ≤ (Go.bits .and .u64 (ji7) 31)) = true := decide_eq_true c8
            clear c8
            by_cases c9 : (Go.bits .and .u64 (ji7) 31) < 32
            · rw [if_pos c9] at H
              have c9b0 : decide ((Go.bits .and .u64 (ji7) 31) < 32) = true := decide_eq_true c9
              clear c9
              by_cases c11 : x3_1.length < 140737488355328
              · rw [if_pos c11] at H
                have LMc11 := Aside0.mk c11
                clear c11
                obtain ⟨y129, hy129⟩ : ∃ y_ : List Int, y_ = (x3_1 ++ [bt (⟨#[48, 49, 50, 51, 52, 53, 54, 55, 56, 57, 97, 98, 99, 100, 102, 103, 104, 105, 106, 107, 108, 109, 110, 112, 113, 114, 115, 118, 119, 120, 121, 122]⟩ : ByteArray) (Go.bits .and .u64 (ji7) 31)]) := ⟨_, rfl⟩
                replace H : (spec_Word32.l0 k1 a0 y129 (wrap64 (x4_1 - 1))) = some r := by first | (rw [hy129]; with_reducible exact H) | (have H2_ := (Option.bind_some _ _).symm.trans H; rw [hy129]; with_reducible exact H2_) | (have H2_ := (Option.bind_some _ _).symm.trans H; with_reducible exact H2_) | with_reducible exact H | (rw [hy129]; exact H) | exact H
                have Ny129 := Aside0.mk hy129
                clear hy129
                have H' := Aside0.mk H
                clear H
                have p10 : 0 ≤ ((Go.bits .and .u64 (ji7) 31) : Int) := of_decide_eq_true (by first | (with_reducible assumption) | assumption)
                have q10 : (Go.bits .and .u64 (ji7) 31) < (32 : Int) := of_decide_eq_true (by first | (with_reducible assumption) | assumption)
                have hx10 := bt_at (⟨#[48, 49, 50, 51, 52, 53, 54, 55, 56, 57, 97, 98, 99, 100, 102, 103, 104, 105, 106, 107, 108, 109, 110, 112, 113, 114, 115, 118, 119, 120, 121, 122]⟩ : ByteArray) (Go.bits .and .u64 (ji7) 31)
                replace p10 := eq_true p10
                replace q10 := eq_true q10
                go_wp2_with (first | ((with_reducible refine gate_builtin (b := .append) (xs := #[.tmp 10, .tmp 18]) rfl ?_); at_builtin; refine Kd.R_append (Kd.int .u8) (w0 := w) w.heap.size rfl (.tmp 10) (.tmp 18) 101 5 (.int .u8 0) 1 rfl Tryd.underlying101 info5 rfl (by decide) (by omega) u3 x3_1 (bt (⟨#[48, 49, 50, 51, 52, 53, 54, 55, 56, 57, 97, 98, 99, 100, 102, 103, 104, 105, 106, 107, 108, 109, 110, 112, 113, 114, 115, 118, 119, 120, 121, 122]⟩ : ByteArray) (Go.bits .and .u64 (ji7) 31)) [.int .u8 (bt (⟨#[48, 49, 50, 51, 52, 53, 54, 55, 56, 57, 97, 98, 99, 100, 102, 103, 104, 105, 106, 107, 108, 109, 110, 112, 113, 114, 115, 118, 119, 120, 121, 122]⟩ : ByteArray) (Go.bits .and .u64 (ji7) 31))] (fun _ => True) (fun _ => False) rfl rfl ?aP (fun _ hk => hk.elim) ?aF ?aO ?aB ?aS ?aL ?_; (case aP => exact rfl); (case aB => exact (by repeat (first | (with_reducible first | exact HB.out | apply below_alloc | apply pw_below_drewN | apply below_drew1) | exact HB.out))); (case aF => exact (fun _ _ => trivial)); (case aO => exact (by (with_reducible repeat (first | apply Kd.R_alloc | apply Kd.R_drewN | apply Kd.R_drew)); exact HO_3.out)); (case aS => exact (below_size (by repeat (first | (with_reducible first | exact HB.out | apply below_alloc | apply pw_below_drewN | apply below_drew1) | exact HB.out)))); (case aL => have := LMc11.out; omega); intro v130 w12 ho hb hg hat; rw [← Ny129.out] at ho; have n0_ := Aside0.mk (hb); have n1_ := Aside0.mk (ho); clear HB; clear HO_3; have HB := n0_; have HO131 := n1_; clear n0_ n1_; clear ho hb hg hat))
                go_roundg k1
                case measure => have := HK1.out; omega
                case rel => exact ⟨(y129), (wrap64 (x4_1 - 1)), (by first | rfl | (simp; done) | (simp [*]; done) | (simp; (generalize ByteArray.toList _ = q; cases q <;> rfl))), H', ⟨by have := HK1.out; omega⟩, ⟨by (with_reducible repeat (first | apply Kd.R_alloc | apply Kd.R_drewN | apply Kd.R_drew)); exact HO131.out⟩, ⟨by repeat (first | (with_reducible first | exact HB.out | apply below_alloc | apply pw_below_drewN | apply below_drew1) | exact HB.out)⟩⟩
              · rw [if_neg c11] at H
                exact absurd H (by simp)
            · rw [if_neg c9] at H
              exact absurd H (by simp)
          · rw [if_neg c8] at H
            exact absurd H (by simp)
        · rw [if_neg c6] at H
          exact absurd H (by simp)
      · rw [if_neg c4] at H
        have c4b0 : decide (0 ≤ x4_1) = false := decide_eq_false c4
        clear c4
        obtain rfl := Option.some.inj H
        have hcv13 := own_string (P := Tryd.prog) Tryd.underlying101 Tryd.underlying5 Tryd.underlying9 (Kd.own_of_R HO_3.out)
        go_wp2
        go_ret
        exact ⟨by first | rfl | (simp [errW_none, errW_some] <;> rfl) | (simp [*, errW_none, errW_some] <;> rfl), by repeat (first | (with_reducible first | exact HB.out | apply below_alloc | apply pw_below_drewN | apply below_drew1) | exact HB.out)⟩

/-! ### spec_ManifestText: function 20 -/
def spec_ManifestText.f (k : Nat) (a0_0 : ByteArray) (a0_1 : ByteArray) (a0_2 : Int) (l0_3 : List ByteArray) (a0_4 : ByteArray) (a0_5 : Int) : Option (ByteArray) := (spec_l16Ok.f k a0_0 a0_1 a0_2 l0_3 a0_4 a0_5).bind fun t133 => (if t133 = true then ((spec_l16Head.f k a0_0 a0_1 a0_2 l0_3 a0_4 a0_5).bind fun t134 => (if t134.size + 4 ≤ 9223372036854775807 then (if (t134 ++ (⟨#[107, 101, 121, 32]⟩ : ByteArray)).size + a0_4.size ≤ 9223372036854775807 then (if ((t134 ++ (⟨#[107, 101, 121, 32]⟩ : ByteArray)) ++ a0_4).size + 5 ≤ 9223372036854775807 then ((spec_Word32.f k a0_5).bind fun t135 => (if (((t134 ++ (⟨#[107, 101, 121, 32]⟩ : ByteArray)) ++ a0_4) ++ (⟨#[10, 115, 105, 103, 32]⟩ : ByteArray)).size + t135.size ≤ 9223372036854775807 then (if ((((t134 ++ (⟨#[107, 101, 121, 32]⟩ : ByteArray)) ++ a0_4) ++ (⟨#[10, 115, 105, 103, 32]⟩ : ByteArray)) ++ t135).size + 1 ≤ 9223372036854775807 then (some (((((t134 ++ (⟨#[107, 101, 121, 32]⟩ : ByteArray)) ++ a0_4) ++ (⟨#[10, 115, 105, 103, 32]⟩ : ByteArray)) ++ t135) ++ (⟨#[10]⟩ : ByteArray))) else (none)) else (none))) else (none)) else (none)) else (none))) else (some (⟨#[]⟩ : ByteArray)))
theorem spec_ManifestText.mono : ∀ a0 a1 a2 a3 a4 a5 k, LeO (spec_ManifestText.f k a0 a1 a2 a3 a4 a5) (spec_ManifestText.f (k + 1) a0 a1 a2 a3 a4 a5) := by
  intro a0 a1 a2 a3 a4 a5 k
  unfold spec_ManifestText.f
  repeat' first
      | (with_reducible exact spec_Word32.mono _ _)
      | (with_reducible exact spec_l16Head.mono _ _ _ _ _ _ _)
      | (with_reducible exact spec_l16Ok.mono _ _ _ _ _ _ _)
      | (with_reducible exact LeO.refl _)
      | (with_reducible exact LeO.none _)
      | (with_reducible refine LeO.ite ?_ ?_)
      | (with_reducible refine LeO.bind ?_ (fun _ => ?_))
      | exact spec_Word32.mono _ _
      | exact spec_l16Head.mono _ _ _ _ _ _ _
      | exact spec_l16Ok.mono _ _ _ _ _ _ _
      | exact LeO.none _
      | refine LeO.ite ?_ ?_
      | refine LeO.bind ?_ (fun _ => ?_)
def spec_ManifestText.T3 : Bool × List (List Nat × List Nat) := (true, [([], []), ([0], [0]), ([1], [1]), ([], []), ([3], [3]), ([2, 4], [2, 4]), ([5], [5]), ([], []), ([7], [7]), ([8, 1], [8]), ([6, 9], [6, 9]), ([10], [10]), ([11, 9, 0, 1, 2, 3, 4, 5, 6, 7, 8, 9, 10, 11], [11])])
def spec_ManifestText.B3 : List Nat := [0, 1, 3, 0, 8, 31, 63, 0, 128, 387, 1023, 2047, 4095]
theorem spec_ManifestText.tab3 : rtab .any (opsOf Tryd.f20 3) = spec_ManifestText.T3 := by kernel_rfl
theorem spec_ManifestText.bits3 : waitsOk spec_ManifestText.T3.2 spec_ManifestText.B3 = true := by kernel_rfl
set_option maxHeartbeats 8000000 in
set_option maxRecDepth 100000 in
theorem spec_ManifestText.calls (k : Nat) (a0_0 : ByteArray) (a0_1 : ByteArray) (a0_2 : Int) (A0_3 : Option Addr) (c0_3 : Nat) (l0_3 : List ByteArray) (a0_4 : ByteArray) (a0_5 : Int) (r : ByteArray) (w : World) (hr0_3 : Kd.C Kd.string w A0_3 l0_3.length l0_3) (hc0_3 : l0_3.length ≤ c0_3) (h : spec_ManifestText.f k a0_0 a0_1 a0_2 l0_3 a0_4 a0_5 = some r) :
    Calls Tryd.prog 20 #[.agg #[.string a0_0, .string a0_1, .int .i64 a0_2, .slice A0_3 l0_3.length c0_3, .string a0_4, .int .u64 a0_5]] w fun e w' => e = .returned (.string r) ∧ Below w.heap.size w w' := by
  have hu36 := Tryd.underlying36
  have HR0_3 := Aside0.mk hr0_3
  have HC0_3 := Aside0.mk hc0_3
  clear hr0_3 hc0_3
  have HB := Aside0.mk (Below.refl w.heap.size w)
  have H : ((spec_l16Ok.f k a0_0 a0_1 a0_2 l0_3 a0_4 a0_5).bind fun t133 => (if t133 = true then ((spec_l16Head.f k a0_0 a0_1 a0_2 l0_3 a0_4 a0_5).bind fun t134 => (if t134.size + 4 ≤ 9223372036854775807 then (if (t134 ++ (⟨#[107, 101, 121, 32]⟩ : ByteArray)).size + a0_4.size ≤ 9223372036854775807 then (if ((t134 ++ (⟨#[107, 101, 121, 32]⟩ : ByteArray)) ++ a0_4).size + 5 ≤ 9223372036854775807 then ((spec_Word32.f k a0_5).bind fun t135 => (if (((t134 ++ (⟨#[107, 101, 121, 32]⟩ : ByteArray)) ++ a0_4) ++ (⟨#[10, 115, 105, 103, 32]⟩ : ByteArray)).size + t135.size ≤ 9223372036854775807 then (if ((((t134 ++ (⟨#[107, 101, 121, 32]⟩ : ByteArray)) ++ a0_4) ++ (⟨#[10, 115, 105, 103, 32]⟩ : ByteArray)) ++ t135).size + 1 ≤ 9223372036854775807 then (some (((((t134 ++ (⟨#[107, 101, 121, 32]⟩ : ByteArray)) ++ a0_4) ++ (⟨#[10, 115, 105, 103, 32]⟩ : ByteArray)) ++ t135) ++ (⟨#[10]⟩ : ByteArray))) else (none)) else (none))) else (none)) else (none)) else (none))) else (some (⟨#[]⟩ : ByteArray)))) = some r := h
  clear h
  replace H := Option.bind_eq_some_iff.mp H
  obtain ⟨t133, A20, H⟩ := H
  replace H : (if t133 = true then ((spec_l16Head.f k a0_0 a0_1 a0_2 l0_3 a0_4 a0_5).bind fun t134 => (if t134.size + 4 ≤ 9223372036854775807 then (if (t134 ++ (⟨#[107, 101, 121, 32]⟩ : ByteArray)).size + a0_4.size ≤ 9223372036854775807 then (if ((t134 ++ (⟨#[107, 101, 121, 32]⟩ : ByteArray)) ++ a0_4).size + 5 ≤ 9223372036854775807 then ((spec_Word32.f k a0_5).bind fun t135 => (if (((t134 ++ (⟨#[107, 101, 121, 32]⟩ : ByteArray)) ++ a0_4) ++ (⟨#[10, 115, 105, 103, 32]⟩ : ByteArray)).size + t135.size ≤ 9223372036854775807 then (if ((((t134 ++ (⟨#[107, 101, 121, 32]⟩ : ByteArray)) ++ a0_4) ++ (⟨#[10, 115, 105, 103, 32]⟩ : ByteArray)) ++ t135).size + 1 ≤ 9223372036854775807 then (some (((((t134 ++ (⟨#[107, 101, 121, 32]⟩ : ByteArray)) ++ a0_4) ++ (⟨#[10, 115, 105, 103, 32]⟩ : ByteArray)) ++ t135) ++ (⟨#[10]⟩ : ByteArray))) else (none)) else (none))) else (none)) else (none)) else (none))) else (some (⟨#[]⟩ : ByteArray))) = some r := H
  have A2 := Aside0.mk A20
  clear A20
  by_cases c3 : t133 = true
  · subst c3
    have H1 : ((spec_l16Head.f k a0_0 a0_1 a0_2 l0_3 a0_4 a0_5).bind fun t134 => (if t134.size + 4 ≤ 9223372036854775807 then (if (t134 ++ (⟨#[107, 101, 121, 32]⟩ : ByteArray)).size + a0_4.size ≤ 9223372036854775807 then (if ((t134 ++ (⟨#[107, 101, 121, 32]⟩ : ByteArray)) ++ a0_4).size + 5 ≤ 9223372036854775807 then ((spec_Word32.f k a0_5).bind fun t135 => (if (((t134 ++ (⟨#[107, 101, 121, 32]⟩ : ByteArray)) ++ a0_4) ++ (⟨#[10, 115, 105, 103, 32]⟩ : ByteArray)).size + t135.size ≤ 9223372036854775807 then (if ((((t134 ++ (⟨#[107, 101, 121, 32]⟩ : ByteArray)) ++ a0_4) ++ (⟨#[10, 115, 105, 103, 32]⟩ : ByteArray)) ++ t135).size + 1 ≤ 9223372036854775807 then (some (((((t134 ++ (⟨#[107, 101, 121, 32]⟩ : ByteArray)) ++ a0_4) ++ (⟨#[10, 115, 105, 103, 32]⟩ : ByteArray)) ++ t135) ++ (⟨#[10]⟩ : ByteArray))) else (none)) else (none))) else (none)) else (none)) else (none))) = some r := by rw [if_pos rfl] at H; exact H
    clear H
    have H := H1
    clear H1
    replace H := Option.bind_eq_some_iff.mp H
    obtain ⟨t134, A40, H⟩ := H
    replace H : (if t134.size + 4 ≤ 9223372036854775807 then (if (t134 ++ (⟨#[107, 101, 121, 32]⟩ : ByteArray)).size + a0_4.size ≤ 9223372036854775807 then (if ((t134 ++ (⟨#[107, 101, 121, 32]⟩ : ByteArray)) ++ a0_4).size + 5 ≤ 9223372036854775807 then ((spec_Word32.f k a0_5).bind fun t135 => (if (((t134 ++ (⟨#[107, 101, 121, 32]⟩ : ByteArray)) ++ a0_4) ++ (⟨#[10, 115, 105, 103, 32]⟩ : ByteArray)).size + t135.size ≤ 9223372036854775807 then (if ((((t134 ++ (⟨#[107, 101, 121, 32]⟩ : ByteArray)) ++ a0_4) ++ (⟨#[10, 115, 105, 103, 32]⟩ : ByteArray)) ++ t135).size + 1 ≤ 9223372036854775807 then (some (((((t134 ++ (⟨#[107, 101, 121, 32]⟩ : ByteArray)) ++ a0_4) ++ (⟨#[10, 115, 105, 103, 32]⟩ : ByteArray)) ++ t135) ++ (⟨#[10]⟩ : ByteArray))) else (none)) else (none))) else (none)) else (none)) else (none)) = some r := H
    have A4 := Aside0.mk A40
    clear A40
    by_cases c5 : t134.size + 4 ≤ 9223372036854775807
    · rw [if_pos c5] at H
      have c5b0 := eq_true c5
      have c5b1 : decide (t134.size + 4 ≤ 9223372036854775807) = true := decide_eq_true c5
      try have c5b2 : (9223372036854775807 < t134.size + 4) = False := eq_false (Nat.not_lt.2 c5)
      try (have c5b3 := Nat.not_lt.2 c5; simp only [ByteArray.size_append, ByteArray.size_mk', List.size_toArray, List.length_cons, List.length_nil, Nat.zero_add, Nat.reduceAdd] at c5b3; replace c5b3 := eq_false c5b3)
      by_cases c6 : (t134 ++ (⟨#[107, 101, 121, 32]⟩ : ByteArray)).size + a0_4.size ≤ 9223372036854775807
      · rw [if_pos c6] at H
        have c6b0 := eq_true c6
        have c6b1 : decide ((t134 ++ (⟨#[107, 101, 121, 32]⟩ : ByteArray)).size + a0_4.size ≤ 9223372036854775807) = true := decide_eq_true c6
        try have c6b2 : (9223372036854775807 < (t134 ++ (⟨#[107, 101, 121, 32]⟩ : ByteArray)).size + a0_4.size) = False := eq_false (Nat.not_lt.2 c6)
        try (have c6b3 := Nat.not_lt.2 c6; simp only [ByteArray.size_append, ByteArray.size_mk', List.size_toArray, List.length_cons, List.length_nil, Nat.zero_add, Nat.reduceAdd] at c6b3; replace c6b3 := eq_false c6b3)
        by_cases c7 : ((t134 ++ (⟨#[107, 101, 121, 32]⟩ : ByteArray)) ++ a0_4).size + 5 ≤ 9223372036854775807
        · rw [if_pos c7] at H
          have c7b0 := eq_true c7
          have c7b1 : decide (((t134 ++ (⟨#[107, 101, 121, 32]⟩ : ByteArray)) ++ a0_4).size + 5 ≤ 9223372036854775807) = true := decide_eq_true c7
          try have c7b2 : (9223372036854775807 < ((t134 ++ (⟨#[107, 101, 121, 32]⟩ : ByteArray)) ++ a0_4).size + 5) = False := eq_false (Nat.not_lt.2 c7)
          try (have c7b3 := Nat.not_lt.2 c7; simp only [ByteArray.size_append, ByteArray.size_mk', List.size_toArray, List.length_cons, List.length_nil, Nat.zero_add, Nat.reduceAdd] at c7b3; replace c7b3 := eq_false c7b3)
          replace H := Option.bind_eq_some_iff.mp H
          obtain ⟨t135, A80, H⟩ := H
          replace H : (if (((t134 ++ (⟨#[107, 101, 121, 32]⟩ : ByteArray)) ++ a0_4) ++ (⟨#[10, 115, 105, 103, 32]⟩ : ByteArray)).size + t135.size ≤ 9223372036854775807 then (if ((((t134 ++ (⟨#[107, 101, 121, 32]⟩ : ByteArray)) ++ a0_4) ++ (⟨#[10, 115, 105, 103, 32]⟩ : ByteArray)) ++ t135).size + 1 ≤ 9223372036854775807 then (some (((((t134 ++ (⟨#[107, 101, 121, 32]⟩ : ByteArray)) ++ a0_4) ++ (⟨#[10, 115, 105, 103, 32]⟩ : ByteArray)) ++ t135) ++ (⟨#[10]⟩ : ByteArray))) else (none)) else (none)) = some r := H
          have A8 := Aside0.mk A80
          clear A80
          by_cases c9 : (((t134 ++ (⟨#[107, 101, 121, 32]⟩ : ByteArray)) ++ a0_4) ++ (⟨#[10, 115, 105, 103, 32]⟩ : ByteArray)).size + t135.size ≤ 9223372036854775807
          · rw [if_pos c9] at H
            have c9b0 := eq_true c9
            have c9b1 : decide ((((t134 ++ (⟨#[107, 101, 121, 32]⟩ : ByteArray)) ++ a0_4) ++ (⟨#[10, 115, 105, 103, 32]⟩ : ByteArray)).size + t135.size ≤ 9223372036854775807) = true := decide_eq_true c9
            try have c9b2 : (9223372036854775807 < (((t134 ++ (⟨#[107, 101, 121, 32]⟩ : ByteArray)) ++ a0_4) ++ (⟨#[10, 115, 105, 103, 32]⟩ : ByteArray)).size + t135.size) = False := eq_false (Nat.not_lt.2 c9)
            try (have c9b3 := Nat.not_lt.2 c9; simp only [ByteArray.size_append, ByteArray.size_mk', List.size_toArray, List.length_cons, List.length_nil, Nat.zero_add, Nat.reduceAdd] at c9b3; replace c9b3 := eq_false c9b3)
            by_cases c10 : ((((t134 ++ (⟨#[107, 101, 121, 32]⟩ : ByteArray)) ++ a0_4) ++ (⟨#[10, 115, 105, 103, 32]⟩ : ByteArray)) ++ t135).size + 1 ≤ 9223372036854775807
            · rw [if_pos c10] at H
              have c10b0 := eq_true c10
              have c10b1 : decide (((((t134 ++ (⟨#[107, 101, 121, 32]⟩ : ByteArray)) ++ a0_4) ++ (⟨#[10, 115, 105, 103, 32]⟩ : ByteArray)) ++ t135).size + 1 ≤ 9223372036854775807) = true := decide_eq_true c10
              try have c10b2 : (9223372036854775807 < ((((t134 ++ (⟨#[107, 101, 121, 32]⟩ : ByteArray)) ++ a0_4) ++ (⟨#[10, 115, 105, 103, 32]⟩ : ByteArray)) ++ t135).size + 1) = False := eq_false (Nat.not_lt.2 c10)
              try (have c10b3 := Nat.not_lt.2 c10; simp only [ByteArray.size_append, ByteArray.size_mk', List.size_toArray, List.length_cons, List.length_nil, Nat.zero_add, Nat.reduceAdd] at c10b3; replace c10b3 := eq_false c10b3)
              obtain rfl := Option.some.inj H
              go_enter Tryd.func20, Tryd.ntmps20
              try go_wp2_with (first | ((with_reducible refine gate_dst (N := 1) rfl ?_); refine box_event ?hg (N := 1) ?hd (cs := #[.string a0_0, .string a0_1, .int .i64 a0_2, .slice A0_3 l0_3.length c0_3, .string a0_4, .int .u64 a0_5]) (t := 36) ?hr ?_; (case hd => rfl); (case hg => rfl); (case hr => first | (go_simp; done) | (go_simp; rfl)); intro gb132 hg w11 hbox hb; have n0_ := Aside0.mk (below_step (by repeat (first | (with_reducible first | exact HB.out | apply below_alloc | apply pw_below_drewN | apply below_drew1) | exact HB.out)) hb); have n1_ := Aside0.mk (hbox); have n2_ := Aside0.mk ((by rw [hg]; exact (below_size (by repeat (first | (with_reducible first | exact HB.out | apply below_alloc | apply pw_below_drewN | apply below_drew1) | exact HB.out))) : w.heap.size ≤ gb132)); have n3_ := Aside0.mk ((by rw [hg]; exact (below_size (by repeat (first | (with_reducible first | exact HB.out | apply below_alloc | apply pw_below_drewN | apply below_drew1) | exact HB.out))) : w.heap.size ≤ gb132)); clear HB; have HB := n0_; have BK132 := n1_; have GW132 := n2_; have GE132 := n3_; clear n0_ n1_ n2_ n3_; clear hb hbox hg; have hcz12_0 : w11.cell? ⟨gb132, 0, none⟩ = some (.string a0_0) := (blk_cell BK132.out 0).trans rfl; have hcz12_1 : w11.cell? ⟨gb132, 1, none⟩ = some (.string a0_1) := (blk_cell BK132.out 1).trans rfl; have hcz12_2 : w11.cell? ⟨gb132, 2, none⟩ = some (.int .i64 a0_2) := (blk_cell BK132.out 2).trans rfl; have hcz12_3 : w11.cell? ⟨gb132, 3, none⟩ = some (.slice A0_3 l0_3.length c0_3) := (blk_cell BK132.out 3).trans rfl; have hcz12_4 : w11.cell? ⟨gb132, 4, none⟩ = some (.string a0_4) := (blk_cell BK132.out 4).trans rfl; have hcz12_5 : w11.cell? ⟨gb132, 5, none⟩ = some (.int .u64 a0_5) := (blk_cell BK132.out 5).trans rfl; have hfz12_0 := blk_frozen BK132.out 0; have hfz12_1 := blk_frozen BK132.out 1; have hfz12_2 := blk_frozen BK132.out 2; have hfz12_3 := blk_frozen BK132.out 3; have hfz12_4 := blk_frozen BK132.out 4; have hfz12_5 := blk_frozen BK132.out 5) | ((with_reducible refine gate_callee (f := 49) rfl ?_); refine goesL_ (some 4) rfl rfl Tryd.func49 (by kernel_rfl) rfl #[.agg #[.string a0_0, .string a0_1, .int .i64 a0_2, .slice A0_3 l0_3.length c0_3, .string a0_4, .int .u64 a0_5]] rfl (by (try simp only [List.map_toArray, List.map_cons, List.map_nil]); first | done | rfl | (simp only [List.length_drop, List.length_take]; rfl)) ?_; (with_reducible refine (spec_l16Ok.calls k a0_0 a0_1 a0_2 _ _ l0_3 a0_4 a0_5 true _ ?side1 ?side2 A2.out).mono ?_); (case side1 => repeat (first | exact (Kd.C_below HR0_3.out HB.out) | (with_reducible refine Kd.C_alloc ?_ _) | (with_reducible refine Kd.C_drewN ?_ _) | (with_reducible refine Kd.C_drew ?_))); (case side2 => exact HC0_3.out); rintro e w13 ⟨rfl, hb⟩; refine ⟨_, rfl, ?_⟩; have n0_ := Aside0.mk (blk_below (g := gb132) (o := .cells #[.string a0_0, .string a0_1, .int .i64 a0_2, .slice A0_3 l0_3.length c0_3, .string a0_4, .int .u64 a0_5] 36 (0, 0)) (by (with_reducible repeat (first | refine blk_drewN ?_ _ | refine blk_drew ?_ | refine blk_alloc ?_ _)); exact BK132.out) hb); have n1_ := Aside0.mk (below_step (by repeat (first | (with_reducible first | exact HB.out | apply below_alloc | apply pw_below_drewN | apply below_drew1 | refine below_set ?_ GE132.out) | exact HB.out)) hb); clear BK132; clear HB; have BK132 := n0_; have HB := n1_; clear n0_ n1_; (try clear hb); (try clear hb2); (try clear hk); (try clear hi)))
              have n0_ := Aside0.mk (blk_drew BK132.out)
              have n1_ := Aside0.mk (below_drew1 HB.out)
              clear BK132
              clear HB
              have BK132 := n0_
              have HB := n1_
              clear n0_ n1_
              refine start_ (n := 13) (S := fun w' => w'.cell? ⟨gb132, 0, none⟩ = some (.string a0_0) ∧ w'.cell? ⟨gb132, 1, none⟩ = some (.string a0_1) ∧ w'.cell? ⟨gb132, 2, none⟩ = some (.int .i64 a0_2) ∧ w'.cell? ⟨gb132, 3, none⟩ = some (.slice A0_3 l0_3.length c0_3) ∧ w'.cell? ⟨gb132, 4, none⟩ = some (.string a0_4) ∧ w'.cell? ⟨gb132, 5, none⟩ = some (.int .u64 a0_5)) (ds := []) #[false, false, false, false, false, false, false, false, false, false, false, false, false] (by kernel_rfl) rfl rfl ⟨(blk_cell BK132.out 0).trans rfl, (blk_cell BK132.out 1).trans rfl, (blk_cell BK132.out 2).trans rfl, (blk_cell BK132.out 3).trans rfl, (blk_cell BK132.out 4).trans rfl, (blk_cell BK132.out 5).trans rfl⟩ (fun hHeld => ?_); refine with_tabW spec_ManifestText.tab3 spec_ManifestText.bits3 (fun HT_ HW_ => ?_)
              generalize w13.drew = w14 at BK132 HB hHeld ⊢
              refine pure_ (i := 3) (N := some 9) (v := ?_) (a' := ?_) #[false, false, false, true, false, false, false, false, false, false, false, false, false] rfl rfl (any_of HT_.out (by kernel_rfl)) (fun _ _ _ h => h) (Or.inl ⟨by rfl, ?_⟩) ?_ ?_
              rotate_left
              · intro w'
                go_simp
                with_reducible rfl
              rotate_left
              · simp only [Act.put, List.setIfInBounds_toArray, List.set_cons_zero, List.set_cons_succ, i64_w, i32_w]
                rfl
              refine pure_ (i := 7) (N := some 13) (v := ?_) (a' := ?_) #[false, false, false, true, false, false, false, true, false, false, false, false, false] rfl rfl (any_of HT_.out (by kernel_rfl)) (fun _ _ _ h => h) (Or.inl ⟨by rfl, ?_⟩) ?_ ?_
              rotate_left
              · intro w'
                go_simp
                with_reducible rfl
              rotate_left
              · simp only [Act.put, List.setIfInBounds_toArray, List.set_cons_zero, List.set_cons_succ, i64_w, i32_w]
                rfl
              refine take_ (i := 0) (N := some 6) (v := ?_) (a' := ?_) #[true, false, false, true, false, false, false, true, false, false, false, false, false] rfl rfl (take_ofW HT_.out HW_.out (by kernel_rfl)) (fun _ _ _ h => h) (Or.inl ⟨by rfl, ?_⟩) hHeld ?_ ?_
              rotate_left
              · rintro w' ⟨s0, s1, s2, s3, s4, s5⟩
                go_simp
                with_reducible rfl
              rotate_left
              · simp only [Act.put, List.setIfInBounds_toArray, List.set_cons_zero, List.set_cons_succ, i64_w, i32_w]
                rfl
              refine take_ (i := 4) (N := some 10) (v := ?_) (a' := ?_) #[true, false, false, true, true, false, false, true, false, false, false, false, false] rfl rfl (take_ofW HT_.out HW_.out (by kernel_rfl)) (fun _ _ _ h => h) (Or.inl ⟨by rfl, ?_⟩) hHeld ?_ ?_
              rotate_left
              · rintro w' ⟨s0, s1, s2, s3, s4, s5⟩
                go_simp
                with_reducible rfl
              rotate_left
              · simp only [Act.put, List.setIfInBounds_toArray, List.set_cons_zero, List.set_cons_succ, i64_w, i32_w]
                rfl
              refine take_ (i := 8) (N := some 14) (v := ?_) (a' := ?_) #[true, false, false, true, true, false, false, true, true, false, false, false, false] rfl rfl (take_ofW HT_.out HW_.out (by kernel_rfl)) (fun _ _ _ h => h) (Or.inl ⟨by rfl, ?_⟩) hHeld ?_ ?_
              rotate_left
              · rintro w' ⟨s0, s1, s2, s3, s4, s5⟩
                go_simp
                with_reducible rfl
              rotate_left
              · simp only [Act.put, List.setIfInBounds_toArray, List.set_cons_zero, List.set_cons_succ, i64_w, i32_w]
                rfl
              refine one_ (i := 1) (N := some 7) #[true, true, false, true, true, false, false, true, true, false, false, false, false] rfl rfl (one_of HT_.out (by kernel_rfl)) (by decide) (fun K hK => ?_)
              refine goes_ Tryd.func50 (by kernel_rfl) rfl #[.agg #[.string a0_0, .string a0_1, .int .i64 a0_2, .slice A0_3 l0_3.length c0_3, .string a0_4, .int .u64 a0_5]] (by rfl) rfl rfl (by (try simp only [List.map_toArray, List.map_cons, List.map_nil]); first | done | rfl | (simp only [List.length_drop, List.length_take]; rfl)) ?_
              with_reducible refine (spec_l16Head.calls k a0_0 a0_1 a0_2 _ _ l0_3 a0_4 a0_5 t134 _ ?side1 ?side2 A4.out).mono ?_
              (case side1 => repeat (first | exact (Kd.C_below HR0_3.out HB.out) | (with_reducible refine Kd.C_alloc ?_ _) | (with_reducible refine Kd.C_drewN ?_ _) | (with_reducible refine Kd.C_drew ?_)))
              (case side2 => exact HC0_3.out)
              rintro e w15 ⟨rfl, hb⟩
              refine ⟨_, rfl, ?_⟩
              have n0_ := Aside0.mk (blk_below (g := gb132) (o := .cells #[.string a0_0, .string a0_1, .int .i64 a0_2, .slice A0_3 l0_3.length c0_3, .string a0_4, .int .u64 a0_5] 36 (0, 0)) (by (with_reducible repeat (first | refine blk_drewN ?_ _ | refine blk_drew ?_ | refine blk_alloc ?_ _)); exact BK132.out) hb)
              have n1_ := Aside0.mk (below_step (by repeat (first | (with_reducible first | exact HB.out | apply below_alloc | apply pw_below_drewN | apply below_drew1 | refine below_set ?_ GE132.out) | exact HB.out)) hb)
              clear BK132
              clear HB
              have BK132 := n0_
              have HB := n1_
              clear n0_ n1_
              (try clear hb)
              (try clear hb2)
              (try clear hk)
              (try clear hi)
              refine hK.out _ _ ⟨(blk_cell BK132.out 0).trans rfl, (blk_cell BK132.out 1).trans rfl, (blk_cell BK132.out 2).trans rfl, (blk_cell BK132.out 3).trans rfl, (blk_cell BK132.out 4).trans rfl, (blk_cell BK132.out 5).trans rfl⟩ (fun hHeld => ?_)
              clear hK K
              refine norm_ (a' := ?_) ?_ ?_
              rotate_left
              · show Act.put _ (some 7) _ = _
                simp only [Act.put, List.setIfInBounds_toArray, List.set_cons_zero, List.set_cons_succ, i64_w, i32_w]
                rfl
              refine pure_ (i := 2) (N := some 8) (v := ?_) (a' := ?_) #[true, true, true, true, true, false, false, true, true, false, false, false, false] rfl rfl (any_of HT_.out (by kernel_rfl)) (fun _ _ _ h => h) (Or.inl ⟨by rfl, ?_⟩) ?_ ?_
              rotate_left
              · intro w'
                go_simp
                with_reducible rfl
              rotate_left
              · simp only [Act.put, List.setIfInBounds_toArray, List.set_cons_zero, List.set_cons_succ, i64_w, i32_w]
                rfl
              refine pure_ (i := 5) (N := some 11) (v := ?_) (a' := ?_) #[true, true, true, true, true, true, false, true, true, false, false, false, false] rfl rfl (any_of HT_.out (by kernel_rfl)) (fun _ _ _ h => h) (Or.inl ⟨by rfl, ?_⟩) ?_ ?_
              rotate_left
              · intro w'
                go_simp
                with_reducible rfl
              rotate_left
              · simp only [Act.put, List.setIfInBounds_toArray, List.set_cons_zero, List.set_cons_succ, i64_w, i32_w]
                rfl
              refine pure_ (i := 6) (N := some 12) (v := ?_) (a' := ?_) #[true, true, true, true, true, true, true, true, true, false, false, false, false] rfl rfl (any_of HT_.out (by kernel_rfl)) (fun _ _ _ h => h) (Or.inl ⟨by rfl, ?_⟩) ?_ ?_
              rotate_left
              · intro w'
                go_simp
                with_reducible rfl
              rotate_left
              · simp only [Act.put, List.setIfInBounds_toArray, List.set_cons_zero, List.set_cons_succ, i64_w, i32_w]
                rfl
              refine one_ (i := 9) (N := some 15) #[true, true, true, true, true, true, true, true, true, true, false, false, false] rfl rfl (one_of HT_.out (by kernel_rfl)) (by decide) (fun K hK => ?_)
              refine goes_ Tryd.func51 (by kernel_rfl) rfl #[.int .u64 a0_5] (by rfl) rfl rfl (by (try simp only [List.map_toArray, List.map_cons, List.map_nil]); first | done | rfl | (simp only [List.length_drop, List.length_take]; rfl)) ?_
              with_reducible refine (spec_Word32.calls k a0_5 t135 _ A8.out).mono ?_
              rintro e w16 ⟨rfl, hb⟩
              refine ⟨_, rfl, ?_⟩
              have n0_ := Aside0.mk (blk_below (g := gb132) (o := .cells #[.string a0_0, .string a0_1, .int .i64 a0_2, .slice A0_3 l0_3.length c0_3, .string a0_4, .int .u64 a0_5] 36 (0, 0)) (by (with_reducible repeat (first | refine blk_drewN ?_ _ | refine blk_drew ?_ | refine blk_alloc ?_ _)); exact BK132.out) hb)
              have n1_ := Aside0.mk (below_step (by repeat (first | (with_reducible first | exact HB.out | apply below_alloc | apply pw_below_drewN | apply below_drew1 | refine below_set ?_ GE132.out) | exact HB.out)) hb)
              clear BK132
              clear HB
              have BK132 := n0_
              have HB := n1_
              clear n0_ n1_
              (try clear hb)
              (try clear hb2)
              (try clear hk)
              (try clear hi)
              refine hK.out _ _ ⟨(blk_cell BK132.out 0).trans rfl, (blk_cell BK132.out 1).trans rfl, (blk_cell BK132.out 2).trans rfl, (blk_cell BK132.out 3).trans rfl, (blk_cell BK132.out 4).trans rfl, (blk_cell BK132.out 5).trans rfl⟩ (fun hHeld => ?_)
              clear hK K
              refine norm_ (a' := ?_) ?_ ?_
              rotate_left
              · show Act.put _ (some 15) _ = _
                simp only [Act.put, List.setIfInBounds_toArray, List.set_cons_zero, List.set_cons_succ, i64_w, i32_w]
                rfl
              refine pure_ (i := 10) (N := some 16) (v := ?_) (a' := ?_) #[true, true, true, true, true, true, true, true, true, true, true, false, false] rfl rfl (any_of HT_.out (by kernel_rfl)) (fun _ _ _ h => h) (Or.inl ⟨by rfl, ?_⟩) ?_ ?_
              rotate_left
              · intro w'
                go_simp
                with_reducible rfl
              rotate_left
              · simp only [Act.put, List.setIfInBounds_toArray, List.set_cons_zero, List.set_cons_succ, i64_w, i32_w]
                rfl
              refine pure_ (i := 11) (N := some 17) (v := ?_) (a' := ?_) #[true, true, true, true, true, true, true, true, true, true, true, true, false] rfl rfl (any_of HT_.out (by kernel_rfl)) (fun _ _ _ h => h) (Or.inl ⟨by rfl, ?_⟩) ?_ ?_
              rotate_left
              · intro w'
                go_simp
                with_reducible rfl
              rotate_left
              · simp only [Act.put, List.setIfInBounds_toArray, List.set_cons_zero, List.set_cons_succ, i64_w, i32_w]
                rfl
              refine pure_ (i := 12) (N := some 2) (v := ?_) (a' := ?_) #[true, true, true, true, true, true, true, true, true, true, true, true, true] rfl rfl (any_of HT_.out (by kernel_rfl)) (fun _ _ _ h => h) (Or.inl ⟨by rfl, ?_⟩) ?_ ?_
              rotate_left
              · intro w'
                go_simp
                with_reducible rfl
              rotate_left
              · simp only [Act.put, List.setIfInBounds_toArray, List.set_cons_zero, List.set_cons_succ, i64_w, i32_w]
                rfl
              refine done_ (done_of HT_.out (by kernel_rfl)) ?_
              try go_wp2
              go_ret
              exact ⟨by first | rfl | (simp [errW_none, errW_some] <;> rfl) | (simp [*, errW_none, errW_some] <;> rfl), by repeat (first | (with_reducible first | exact HB.out | apply below_alloc | apply pw_below_drewN | apply below_drew1 | refine below_set ?_ GE132.out) | exact HB.out)⟩
            · rw [if_neg c10] at H
              exact absurd H (by simp)
          · rw [if_neg c9] at H
            exact absurd H (by simp)
        · rw [if_neg c7] at H
          exact absurd H (by simp)
      · rw [if_neg c6] at H
        exact absurd H (by simp)
    · rw [if_neg c5] at H
      exact absurd H (by simp)
  · replace c3 := Bool.eq_false_iff.mpr c3
    subst c3
    have H1 : (some (⟨#[]⟩ : ByteArray)) = some r := by rw [if_neg (show ¬ (false = true) by decide)] at H; exact H
    clear H
    have H := H1
    clear H1
    obtain rfl := Option.some.inj H
    go_enter Tryd.func20, Tryd.ntmps20
    go_wp2_with (first | ((with_reducible refine gate_dst (N := 1) rfl ?_); refine box_event ?hg (N := 1) ?hd (cs := #[.string a0_0, .string a0_1, .int .i64 a0_2, .slice A0_3 l0_3.length c0_3, .string a0_4, .int .u64 a0_5]) (t := 36) ?hr ?_; (case hd => rfl); (case hg => rfl); (case hr => first | (go_simp; done) | (go_simp; rfl)); intro gb132 hg w17 hbox hb; have n0_ := Aside0.mk (below_step (by repeat (first | (with_reducible first | exact HB.out | apply below_alloc | apply pw_below_drewN | apply below_drew1) | exact HB.out)) hb); have n1_ := Aside0.mk (hbox); have n2_ := Aside0.mk ((by rw [hg]; exact (below_size (by repeat (first | (with_reducible first | exact HB.out | apply below_alloc | apply pw_below_drewN | apply below_drew1) | exact HB.out))) : w.heap.size ≤ gb132)); have n3_ := Aside0.mk ((by rw [hg]; exact (below_size (by repeat (first | (with_reducible first | exact HB.out | apply below_alloc | apply pw_below_drewN | apply below_drew1) | exact HB.out))) : w.heap.size ≤ gb132)); clear HB; have HB := n0_; have BK132 := n1_; have GW132 := n2_; have GE132 := n3_; clear n0_ n1_ n2_ n3_; clear hb hbox hg; have hcz18_0 : w17.cell? ⟨gb132, 0, none⟩ = some (.string a0_0) := (blk_cell BK132.out 0).trans rfl; have hcz18_1 : w17.cell? ⟨gb132, 1, none⟩ = some (.string a0_1) := (blk_cell BK132.out 1).trans rfl; have hcz18_2 : w17.cell? ⟨gb132, 2, none⟩ = some (.int .i64 a0_2) := (blk_cell BK132.out 2).trans rfl; have hcz18_3 : w17.cell? ⟨gb132, 3, none⟩ = some (.slice A0_3 l0_3.length c0_3) := (blk_cell BK132.out 3).trans rfl; have hcz18_4 : w17.cell? ⟨gb132, 4, none⟩ = some (.string a0_4) := (blk_cell BK132.out 4).trans rfl; have hcz18_5 : w17.cell? ⟨gb132, 5, none⟩ = some (.int .u64 a0_5) := (blk_cell BK132.out 5).trans rfl; have hfz18_0 := blk_frozen BK132.out 0; have hfz18_1 := blk_frozen BK132.out 1; have hfz18_2 := blk_frozen BK132.out 2; have hfz18_3 := blk_frozen BK132.out 3; have hfz18_4 := blk_frozen BK132.out 4; have hfz18_5 := blk_frozen BK132.out 5) | ((with_reducible refine gate_callee (f := 49) rfl ?_); refine goesL_ (some 4) rfl rfl Tryd.func49 (by kernel_rfl) rfl #[.agg #[.string a0_0, .string a0_1, .int .i64 a0_2, .slice A0_3 l0_3.length c0_3, .string a0_4, .int .u64 a0_5]] rfl (by (try simp only [List.map_toArray, List.map_cons, List.map_nil]); first | done | rfl | (simp only [List.length_drop, List.length_take]; rfl)) ?_; (with_reducible refine (spec_l16Ok.calls k a0_0 a0_1 a0_2 _ _ l0_3 a0_4 a0_5 false _ ?side1 ?side2 A2.out).mono ?_); (case side1 => repeat (first | exact (Kd.C_below HR0_3.out HB.out) | (with_reducible refine Kd.C_alloc ?_ _) | (with_reducible refine Kd.C_drewN ?_ _) | (with_reducible refine Kd.C_drew ?_))); (case side2 => exact HC0_3.out); rintro e w19 ⟨rfl, hb⟩; refine ⟨_, rfl, ?_⟩; have n0_ := Aside0.mk (blk_below (g := gb132) (o := .cells #[.string a0_0, .string a0_1, .int .i64 a0_2, .slice A0_3 l0_3.length c0_3, .string a0_4, .int .u64 a0_5] 36 (0, 0)) (by (with_reducible repeat (first | refine blk_drewN ?_ _ | refine blk_drew ?_ | refine blk_alloc ?_ _)); exact BK132.out) hb); have n1_ := Aside0.mk (below_step (by repeat (first | (with_reducible first | exact HB.out | apply below_alloc | apply pw_below_drewN | apply below_drew1 | refine below_set ?_ GE132.out) | exact HB.out)) hb); clear BK132; clear HB; have BK132 := n0_; have HB := n1_; clear n0_ n1_; (try clear hb); (try clear hb2); (try clear hk); (try clear hi)))
    go_ret
    exact ⟨by first | rfl | (simp [errW_none, errW_some] <;> rfl) | (simp [*, errW_none, errW_some] <;> rfl), by repeat (first | (with_reducible first | exact HB.out | apply below_alloc | apply pw_below_drewN | apply below_drew1 | refine below_set ?_ GE132.out) | exact HB.out)⟩

end Go.Proofs.YtklinldidfdnjaaDoor.PFnExactManifestText
