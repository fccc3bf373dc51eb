-- Laid by a program of this session: a turned copy of the kit's print, with contracts by hand beside.
import Derived.Test.YtbgnjnlecpdfaaaPFnRollBackx0
import Derived.Test.YtbgnjnlecpdfaaaPFnRollBackx10
import Derived.Test.YtbgnjnlecpdfaaaPFnRollBackx11
namespace Go.Proofs.Ytbgnjnlecpdfaaa.PFnRollBack
open Go.RowKit Go.Proofs.YtbgnjnlecpdfaaaW.PrintWords Go.Proofs.YtbgnjnlecpdfaaaW.PrintLast Go.Proofs.YtbgnjnlecpdfaaaW.PrintMore
theorem zbc0 {X : Prop} (h : X := by rfl) : X := h
theorem zbc1 {X : Prop} (h : X := by repeat ((with_reducible first | exact HB.out | apply below_alloc | apply pw_below_drewN | apply below_drew1))) : X := h
theorem zbc2 {X : Prop} (h : X := by rfl) : X := h
theorem zbc3 {X : Prop} (h : X := by (simp only [List.map_toArray, List.map_cons, List.map_nil]); first | done | rfl | (simp only [List.length_drop, List.length_take]; rfl)) : X := h
theorem zbc4 {X : Prop} (h : X := by (with_reducible assumption)) : X := h
theorem zbc5 {X : Prop} (h : X := by repeat ((with_reducible first | exact HI0.out | apply IsS82.alloc | apply IsS82.drewN | apply IsS82.drew | apply IsS82.set_1 | apply IsS82.set_2))) : X := h
theorem zbc6 {X : Prop} (h : X := by repeat ((with_reducible first | exact HB.out | apply below_alloc | apply pw_below_drewN | apply below_drew1 | refine below_set ?_ (IsS82.ge HI0.out)))) : X := h
theorem zbc7 {X : Prop} (h : X := by repeat ((with_reducible first | exact HK.out | apply KeepBut.set_ | apply keep_drewN | apply keep_drew | apply keep_alloc))) : X := h
attribute [local go_sem] max2_int min2_int max_two min_two max_three min_three max_four min_four   -- for this text's walks alone
set_option linter.unusedVariables false
set_option linter.unusedSimpArgs false

/-! ### spec_l2Int: function 64 -/
def spec_l2Int.l0 : Nat → Int → ByteArray → Option (ByteArray)
 | 0, _, _ => none
 | k + 1, x0, x3 => if x0 > 9 then ((some (([(wrap64 (48 + (Int.tmod x0 10))) % 256] : List Int) : List Int)).bind fun y247 => (if (strOfNums y247).size + x3.size ≤ 9223372036854775807 then (spec_l2Int.l0 k (wrap64 (Int.tdiv x0 10)) ((strOfNums y247) ++ x3)) else (none))) else ((some (([(wrap64 (48 + x0)) % 256] : List Int) : List Int)).bind fun y250 => (if (strOfNums y250).size + x3.size ≤ 9223372036854775807 then (some ((strOfNums y250) ++ x3)) else (none)))
def spec_l2Int.f (k : Nat) (a0 : Int) : Option (ByteArray) := spec_l2Int.l0 k a0 (⟨#[]⟩ : ByteArray)
theorem spec_l2Int.mono_l : ∀ k, (∀ y0 y1, LeO (spec_l2Int.l0 k y0 y1) (spec_l2Int.l0 (k + 1) y0 y1))
 | 0 => fun _ _ r h => by simp [spec_l2Int.l0] at h
 | k + 1 => by
  have ih0 := spec_l2Int.mono_l k
  ·intro y0 y1; unfold spec_l2Int.l0
   repeat' first
   | (with_reducible exact ih0 _ _)
   | (with_reducible exact LeO.refl _)
   | (with_reducible exact LeO.none _)
   | (with_reducible refine LeO.ite ?_ ?_)
   | (with_reducible refine LeO.bind ?_ (fun _ => ?_))
   | exact ih0 _ _
   | exact LeO.none _
   | refine LeO.ite ?_ ?_
   | refine LeO.bind ?_ (fun _ => ?_)
theorem spec_l2Int.mono : ∀ a0 k, LeO (spec_l2Int.f k a0) (spec_l2Int.f (k + 1) a0) := by
 intro a0 k; have ih0 := spec_l2Int.mono_l k; unfold spec_l2Int.f
 repeat' first
   | (with_reducible exact ih0 _ _)
   | (with_reducible exact LeO.refl _)
   | (with_reducible exact LeO.none _)
   | (with_reducible refine LeO.ite ?_ ?_)
   | (with_reducible refine LeO.bind ?_ (fun _ => ?_))
   | exact ih0 _ _
   | exact LeO.none _
   | refine LeO.ite ?_ ?_
   | refine LeO.bind ?_ (fun _ => ?_)
set_option maxHeartbeats 8000000 in
set_option maxRecDepth 100000 in
theorem spec_l2Int.calls (k : Nat) (a0 : Int) (r : ByteArray) (w : World) (h : spec_l2Int.f k a0 = some r) :
  Calls Try.prog 64 #[.int .i64 a0] w fun e w' => e = .returned (.string r) ∧ Below w.heap.size w w' := by
 have HB := Aside0.mk (Below.refl w.heap.size w); have H : (spec_l2Int.l0 k a0 (⟨#[]⟩ : ByteArray)) = some r := h; clear h; have H' := Aside0.mk H; clear H; go_enter Try.func64, Try.ntmps64; go_wp2; go_loopg [0, 3] k (fun kq v0 v3 w' => ∃ (x0_1 : Int) (x3_1 : ByteArray), v0 = .int .i64 x0_1 ∧ v3 = .string x3_1 ∧ Aside0 (spec_l2Int.l0 kq x0_1 x3_1 = some r) ∧ Aside0 (kq ≤ k) ∧ Aside0 (Below w.heap.size w w')); (case atStart => exact ⟨(a0), ((⟨#[]⟩ : ByteArray)), zbc0, zbc0, H', ⟨Nat.le_refl _⟩, ⟨zbc1⟩⟩); case round =>
  clear H'; obtain ⟨x0_1, x3_1, rfl, rfl, HA, HK1, HB⟩ := hrel
  cases gk with
  | zero => exact absurd HA.out (by simp [spec_l2Int.l0])
  | succ k1 =>
   have H := HA.out; clear HA; simp only [spec_l2Int.l0] at H; by_cases c2 : x0_1 > 9
   ·rw [if_pos c2] at H; have c2b0 : decide (9 < x0_1) = true := decide_eq_true c2; clear c2; obtain ⟨y247, hy247⟩ : ∃ y_ : List Int, y_ = (([(wrap64 (48 + (Int.tmod x0_1 10))) % 256] : List Int)) := ⟨_, rfl⟩; replace H : (if (strOfNums y247).size + x3_1.size ≤ 9223372036854775807 then (spec_l2Int.l0 k1 (wrap64 (Int.tdiv x0_1 10)) ((strOfNums y247) ++ x3_1)) else (none)) = some r := by (have H2_ := (Option.bind_some _ _).symm.trans H; rw [hy247]; with_reducible exact H2_)
    have Ny247 := Aside0.mk hy247; clear hy247; by_cases c3 : (strOfNums y247).size + x3_1.size ≤ 9223372036854775807
    ·rw [if_pos c3] at H; have c3b0 := eq_true c3; have c3b1 : decide ((strOfNums y247).size + x3_1.size ≤ 9223372036854775807) = true := decide_eq_true c3; (have c3b2 : (9223372036854775807 < (strOfNums y247).size + x3_1.size) = False := eq_false (Nat.not_lt.2 c3)); have H' := Aside0.mk H; clear H; go_wp2_with (first | ((with_reducible refine gate_dst (N := 10) rfl ?_); refine Kd.R_lit (Kd.int .u8) _ 5 ?hg (N := 10) ?hd (xs := ([(wrap64 (48 + (Int.tmod x0_1 10))) % 256] : List Int)) (inner := [.int .u8 ((wrap64 (48 + (Int.tmod x0_1 10))) % 256)]) (ok := fun _ => True) (okp := fun _ => True) ?hr ?hp (fun _ hk => hk) trivial (Below.refl _ _) (Nat.le_refl _) (by simp) ?_; (case hd => rfl); (case hg => rfl); (case hr => first | (go_simp; done) | (go_simp; rfl)); (case hp => exact (Reps.one (show Kd.M (Kd.int .u8) _ _ _ ((wrap64 (48 + (Int.tmod x0_1 10))) % 256) [.int .u8 ((wrap64 (48 + (Int.tmod x0_1 10))) % 256)] from rfl) (Reps.none _ _))); intro v248 w4 ho5 hb hg_ hnew_; clear hg_ hnew_; (rw [← Ny247.out] at ho5); have HO249 := Aside0.mk (Kd.R_lower ho5 (below_size qB)); replace HB := Aside0.mk (below_step qB hb); clear hb ho5; have hcv6 := own_string (P := Try.prog) Try.underlying38 Try.underlying5 Try.underlying9 (Kd.own_of_R HO249.out))); go_roundg k1; (case measure => have := HK1.out; omega); case rel => exact ⟨(wrap64 (Int.tdiv x0_1 10)), ((strOfNums y247) ++ x3_1), zbc0, zbc0, H', ⟨by have := HK1.out; omega⟩, ⟨zbc1⟩⟩
    ·rw [if_neg c3] at H; exact absurd H (by simp)
   ·rw [if_neg c2] at H; have c2b0 : decide (9 < x0_1) = false := decide_eq_false c2; clear c2; obtain ⟨y250, hy250⟩ : ∃ y_ : List Int, y_ = (([(wrap64 (48 + x0_1)) % 256] : List Int)) := ⟨_, rfl⟩; replace H : (if (strOfNums y250).size + x3_1.size ≤ 9223372036854775807 then (some ((strOfNums y250) ++ x3_1)) else (none)) = some r := by (have H2_ := (Option.bind_some _ _).symm.trans H; rw [hy250]; with_reducible exact H2_)
    have Ny250 := Aside0.mk hy250; clear hy250; by_cases c7 : (strOfNums y250).size + x3_1.size ≤ 9223372036854775807
    ·rw [if_pos c7] at H; have c7b0 := eq_true c7; have c7b1 : decide ((strOfNums y250).size + x3_1.size ≤ 9223372036854775807) = true := decide_eq_true c7; (have c7b2 : (9223372036854775807 < (strOfNums y250).size + x3_1.size) = False := eq_false (Nat.not_lt.2 c7)); obtain rfl := Option.some.inj H; go_wp2_with (first | ((with_reducible refine gate_dst (N := 19) rfl ?_); refine Kd.R_lit (Kd.int .u8) _ 5 ?hg (N := 19) ?hd (xs := ([(wrap64 (48 + x0_1)) % 256] : List Int)) (inner := [.int .u8 ((wrap64 (48 + x0_1)) % 256)]) (ok := fun _ => True) (okp := fun _ => True) ?hr ?hp (fun _ hk => hk) trivial (Below.refl _ _) (Nat.le_refl _) (by simp) ?_; (case hd => rfl); (case hg => rfl); (case hr => first | (go_simp; done) | (go_simp; rfl)); (case hp => exact (Reps.one (show Kd.M (Kd.int .u8) _ _ _ ((wrap64 (48 + x0_1)) % 256) [.int .u8 ((wrap64 (48 + x0_1)) % 256)] from rfl) (Reps.none _ _))); intro v251 w8 ho9 hb hg_ hnew_; clear hg_ hnew_; (rw [← Ny250.out] at ho9); have HO252 := Aside0.mk (Kd.R_lower ho9 (below_size qB)); replace HB := Aside0.mk (below_step qB hb); clear hb ho9; have hcv10 := own_string (P := Try.prog) Try.underlying38 Try.underlying5 Try.underlying9 (Kd.own_of_R HO252.out))); go_ret; exact ⟨zbc2, zbc1⟩
    ·rw [if_neg c7] at H; exact absurd H (by simp)

/-! ### spec_l12DrawPath: function 49 -/
def spec_l12DrawPath.f (k : Nat) (a0 : Int) : Option (ByteArray) := (spec_l2Int.f k a0).bind fun t253 => (if 1 + t253.size ≤ 9223372036854775807 then ((spec_l1Address.f k (⟨#[111, 117, 116]⟩ : ByteArray) ((⟨#[112]⟩ : ByteArray) ++ t253) (([1] : List Int))).bind fun t257 => (some t257)) else (none))
theorem spec_l12DrawPath.mono : ∀ a0 k, LeO (spec_l12DrawPath.f k a0) (spec_l12DrawPath.f (k + 1) a0) := by
 intro a0 k; unfold spec_l12DrawPath.f
 repeat' first
   | (with_reducible exact spec_l1Address.mono _ _ _ _)
   | (with_reducible exact spec_l2Int.mono _ _)
   | (with_reducible exact LeO.refl _)
   | (with_reducible exact LeO.none _)
   | (with_reducible refine LeO.ite ?_ ?_)
   | (with_reducible refine LeO.bind ?_ (fun _ => ?_))
   | exact spec_l1Address.mono _ _ _ _
   | exact spec_l2Int.mono _ _
   | exact LeO.none _
   | refine LeO.ite ?_ ?_
   | refine LeO.bind ?_ (fun _ => ?_)
set_option maxHeartbeats 8000000 in
set_option maxRecDepth 100000 in
theorem spec_l12DrawPath.calls (k : Nat) (a0 : Int) (r : ByteArray) (w : World) (h : spec_l12DrawPath.f k a0 = some r) :
  Calls Try.prog 49 #[.int .i64 a0] w fun e w' => e = .returned (.string r) ∧ Below w.heap.size w w' := by
 have HB := Aside0.mk (Below.refl w.heap.size w); have H : ((spec_l2Int.f k a0).bind fun t253 => (if 1 + t253.size ≤ 9223372036854775807 then ((spec_l1Address.f k (⟨#[111, 117, 116]⟩ : ByteArray) ((⟨#[112]⟩ : ByteArray) ++ t253) (([1] : List Int))).bind fun t257 => (some t257)) else (none))) = some r := h; clear h; replace H := Option.bind_eq_some_iff.mp H; obtain ⟨t253, A20, H⟩ := H; have A2 := Aside0.mk A20; clear A20; by_cases c3 : 1 + t253.size ≤ 9223372036854775807
 ·rw [if_pos c3] at H; have c3b0 := eq_true c3; have c3b1 : decide (1 + t253.size ≤ 9223372036854775807) = true := decide_eq_true c3; (have c3b2 : (9223372036854775807 < 1 + t253.size) = False := eq_false (Nat.not_lt.2 c3)); obtain ⟨y254, hy254⟩ : ∃ y_ : List Int, y_ = (([1] : List Int)) := ⟨_, rfl⟩; replace H : ((spec_l1Address.f k (⟨#[111, 117, 116]⟩ : ByteArray) ((⟨#[112]⟩ : ByteArray) ++ t253) y254).bind fun t257 => (some t257)) = some r := by (rw [hy254]; with_reducible exact H)
  have Ny254 := Aside0.mk hy254; clear hy254; replace H := Option.bind_eq_some_iff.mp H; obtain ⟨t257, A40, H⟩ := H; have A4 := Aside0.mk A40; clear A40; obtain rfl := Option.some.inj H; go_enter Try.func49, Try.ntmps49; go_wp2_with (first | ((with_reducible refine gate_callee (f := 64) rfl ?_); refine goesL_ (some 4) rfl rfl Try.func64 (by kernel_rfl) rfl #[.int .i64 a0] rfl zbc3 ?_; (with_reducible refine (spec_l2Int.calls k a0 t253 _ A2.out).mono ?_); rintro e w5 ⟨rfl, hb⟩; refine ⟨_, rfl, ?_⟩; replace HB := Aside0.mk (below_step qB hb); clear hb; ) | ((with_reducible refine gate_dst (N := 6) rfl ?_); refine Kd.R_lit (Kd.int .u8) _ 5 ?hg (N := 6) ?hd (xs := ([1] : List Int)) (inner := [.int .u8 1]) (ok := fun _ => True) (okp := fun _ => True) ?hr ?hp (fun _ hk => hk) trivial (Below.refl _ _) (Nat.le_refl _) (by simp) ?_; (case hd => rfl); (case hg => rfl); (case hr => first | (go_simp; done) | (go_simp; rfl)); (case hp => exact (Reps.one (show Kd.M (Kd.int .u8) _ _ _ 1 [.int .u8 1] from rfl) (Reps.none _ _))); intro v255 w6 ho7 hb hg_ hnew_; clear hg_ hnew_; (rw [← Ny254.out] at ho7); have HO256 := Aside0.mk (Kd.R_lower ho7 (below_size qB)); replace HB := Aside0.mk (below_step qB hb); clear hb ho7; obtain ⟨Ao8, co8, eo8⟩ := Kd.R_slice HO256.out; subst eo8) | ((with_reducible refine gate_callee (f := 63) rfl ?_); refine goesL_ (some 7) rfl rfl Try.func63 (by kernel_rfl) rfl #[.string (⟨#[111, 117, 116]⟩ : ByteArray), .string ((⟨#[112]⟩ : ByteArray) ++ t253), .slice Ao8 y254.length co8] rfl zbc3 ?_; (with_reducible refine (spec_l1Address.calls k (⟨#[111, 117, 116]⟩ : ByteArray) ((⟨#[112]⟩ : ByteArray) ++ t253) _ _ y254 t257 _ ?side1 ?side2 A4.out).mono ?_); (case side1 => repeat (exact (Kd.R_reads' HO256.out).2.2)); (case side2 => exact (Kd.R_reads' HO256.out).2.1); rintro e w9 ⟨rfl, hb⟩; refine ⟨_, rfl, ?_⟩; replace HO256 := Aside0.mk (Kd.R_below (by (with_reducible repeat (first | apply Kd.R_alloc | apply Kd.R_drewN | apply Kd.R_drew)); exact HO256.out) hb); replace HB := Aside0.mk (below_step qB hb); clear hb; )); go_ret; exact ⟨zbc2, zbc1⟩
 ·rw [if_neg c3] at H; exact absurd H (by simp)

/-! ### spec_l1Byte: function 65 -/
def spec_l1Byte.f (s0_0 : List Int) (s0_1 : Int) (s0_2 : Int) : Option (Int × Int × Int) := if s0_1 < (s0_0.length : Int) then (if 0 ≤ s0_1 then (some (Go.bits .and .i64 (wrap64 ((Go.bits .and .i64 (Go.bits .xor .i64 ((wrap64 ((wrap64 (s0_2 * 6364136223846793005)) + 1442695040888963407)) / 8589934592) ((wrap64 ((wrap64 (s0_2 * 6364136223846793005)) + 1442695040888963407)) / 35184372088832)) 255) + (wrap64 (rd s0_0 s0_1)))) 255, wrap64 (s0_1 + 1), wrap64 ((wrap64 (s0_2 * 6364136223846793005)) + 1442695040888963407))) else (none)) else (some (Go.bits .and .i64 (Go.bits .xor .i64 ((wrap64 ((wrap64 (s0_2 * 6364136223846793005)) + 1442695040888963407)) / 8589934592) ((wrap64 ((wrap64 (s0_2 * 6364136223846793005)) + 1442695040888963407)) / 35184372088832)) 255, s0_1, wrap64 ((wrap64 (s0_2 * 6364136223846793005)) + 1442695040888963407)))
set_option maxHeartbeats 8000000 in
set_option maxRecDepth 100000 in
theorem spec_l1Byte.calls (g : Nat) (s0_0 : List Int) (s0_1 : Int) (s0_2 : Int) (r1 : Int) (r2 : Int) (r3 : Int) (w0 w : World) (hI : IsS82 w0 w g s0_0 s0_1 s0_2) (hB : Below w0.heap.size w0 w) (h : spec_l1Byte.f s0_0 s0_1 s0_2 = some (r1, r2, r3)) :
  Calls Try.prog 65 #[.pointer (some ⟨g, 0, none⟩)] w fun e w' => e = .returned (.int .i64 r1) ∧ IsS82 w0 w' g s0_0 r2 r3 ∧ Below w0.heap.size w0 w' ∧ KeepBut w w' g none := by
 have HI0 := Aside0.mk hI; have HK := Aside0.mk (KeepBut.refl w g none); have HL := Aside0.mk hB.size; clear hI; have HW0 := Aside0.mk hB.size; have HB := Aside0.mk hB; clear hB; have H : (if s0_1 < (s0_0.length : Int) then (if 0 ≤ s0_1 then (some (Go.bits .and .i64 (wrap64 ((Go.bits .and .i64 (Go.bits .xor .i64 ((wrap64 ((wrap64 (s0_2 * 6364136223846793005)) + 1442695040888963407)) / 8589934592) ((wrap64 ((wrap64 (s0_2 * 6364136223846793005)) + 1442695040888963407)) / 35184372088832)) 255) + (wrap64 (rd s0_0 s0_1)))) 255, wrap64 (s0_1 + 1), wrap64 ((wrap64 (s0_2 * 6364136223846793005)) + 1442695040888963407))) else (none)) else (some (Go.bits .and .i64 (Go.bits .xor .i64 ((wrap64 ((wrap64 (s0_2 * 6364136223846793005)) + 1442695040888963407)) / 8589934592) ((wrap64 ((wrap64 (s0_2 * 6364136223846793005)) + 1442695040888963407)) / 35184372088832)) 255, s0_1, wrap64 ((wrap64 (s0_2 * 6364136223846793005)) + 1442695040888963407)))) = some (r1, r2, r3) := h; clear h; by_cases c2 : s0_1 < (s0_0.length : Int)
 ·rw [if_pos c2] at H; have c2b0 : decide (s0_1 < (s0_0.length : Int)) = true := decide_eq_true c2; clear c2; by_cases c3 : 0 ≤ s0_1
  ·rw [if_pos c3] at H; have c3b0 : decide (0 ≤ s0_1) = true := decide_eq_true c3; clear c3; simp only [Option.some.injEq, Prod.mk.injEq] at H; obtain ⟨rfl, rfl, rfl⟩ := H; obtain ⟨ASz4_0, cSz4_0, HGz4, hgz4, HSz4_0⟩ := HI0.out; have hcz4_0 := cellS82_0 HGz4; have hcz4_1 := cellS82_1 HGz4; have hcz4_2 := cellS82_2 HGz4; have hfz4_1 := blk_frozen HGz4 1; have hfz4_2 := blk_frozen HGz4 2; clear HGz4 hgz4; have p258 : 0 ≤ (s0_1 : Int) := of_decide_eq_true zbc4; have q258 : s0_1 < (s0_0.length : Int) := of_decide_eq_true zbc4; obtain ⟨ad258, e258, hx258_0⟩ := Kd.at_int HSz4_0 s0_1 p258 q258; cases e258; have hn258_0 : ad258.block ≠ g := Nat.ne_of_lt (Nat.lt_of_lt_of_le (by have := World.block_lt_of_cell? _ _ hx258_0; first | rwa [add_block] at this | exact this) (IsS82.ge HI0.out)); replace hx258_0 := pw_cell_below HB.out hx258_0; replace hx258_0 := (cell_far (p := ⟨g, 2, none⟩) (by (rw [add_block]; exact hn258_0)) (.int .i64 (wrap64 ((wrap64 (s0_2 * 6364136223846793005)) + 1442695040888963407)))).trans hx258_0; (have hy258_0 := fun (n_ : Nat) => (show (((w.drewN n_).setCell ⟨g, 2, none⟩ (.int .i64 (wrap64 ((wrap64 (s0_2 * 6364136223846793005)) + 1442695040888963407))))).cell? _ = some _ from hx258_0)); clear hn258_0; replace p258 := eq_true p258; replace q258 := eq_true q258; go_enter Try.func65, Try.ntmps65; go_wp2; (repeat (go_quiet (fail); try go_wp2)); go_ret; exact ⟨zbc2, zbc5, zbc6, zbc7⟩
  ·rw [if_neg c3] at H; exact absurd H (by simp)
 ·rw [if_neg c2] at H; have c2b0 : decide (s0_1 < (s0_0.length : Int)) = false := decide_eq_false c2; clear c2; simp only [Option.some.injEq, Prod.mk.injEq] at H; obtain ⟨rfl, rfl, rfl⟩ := H; obtain ⟨ASz5_0, cSz5_0, HGz5, hgz5, HSz5_0⟩ := HI0.out; have hcz5_0 := cellS82_0 HGz5; have hcz5_1 := cellS82_1 HGz5; have hcz5_2 := cellS82_2 HGz5; have hfz5_1 := blk_frozen HGz5 1; have hfz5_2 := blk_frozen HGz5 2; clear HGz5 hgz5; go_enter Try.func65, Try.ntmps65; go_wp2; (repeat (go_quiet (fail); try go_wp2)); go_ret; exact ⟨zbc2, zbc5, zbc6, zbc7⟩

/-! ### spec_l1Below: function 50 -/
def spec_l1Below.f (s0_0 : List Int) (s0_1 : Int) (s0_2 : Int) (a1 : Int) : Option (Int × Int × Int) := if a1 ≤ 0 then (some (0, s0_1, s0_2)) else (if a1 ≤ 256 then ((spec_l1Byte.f s0_0 s0_1 s0_2).bind fun bt259 => (if a1 = 0 then (none) else (some (Int.tmod bt259.1 a1, bt259.2.1, bt259.2.2)))) else ((spec_l1Byte.f s0_0 s0_1 s0_2).bind fun bt262 => ((spec_l1Byte.f s0_0 bt262.2.1 bt262.2.2).bind fun bt265 => ((spec_l1Byte.f s0_0 bt265.2.1 bt265.2.2).bind fun bt268 => ((spec_l1Byte.f s0_0 bt268.2.1 bt268.2.2).bind fun bt271 => (if a1 = 0 then (none) else (some (Int.tmod (wrap64 ((wrap64 ((wrap64 ((wrap64 (bt262.1 * 16777216)) + (wrap64 (bt265.1 * 65536)))) + (wrap64 (bt268.1 * 256)))) + bt271.1)) a1, bt271.2.1, bt271.2.2))))))))
set_option maxHeartbeats 8000000 in
set_option maxRecDepth 100000 in
theorem spec_l1Below.calls (g : Nat) (s0_0 : List Int) (s0_1 : Int) (s0_2 : Int) (a1 : Int) (r1 : Int) (r2 : Int) (r3 : Int) (w0 w : World) (hI : IsS82 w0 w g s0_0 s0_1 s0_2) (hB : Below w0.heap.size w0 w) (h : spec_l1Below.f s0_0 s0_1 s0_2 a1 = some (r1, r2, r3)) :
  Calls Try.prog 50 #[.pointer (some ⟨g, 0, none⟩), .int .i64 a1] w fun e w' => e = .returned (.int .i64 r1) ∧ IsS82 w0 w' g s0_0 r2 r3 ∧ Below w0.heap.size w0 w' ∧ KeepBut w w' g none := by
 have HI0 := Aside0.mk hI; have HK := Aside0.mk (KeepBut.refl w g none); have HL := Aside0.mk hB.size; clear hI; have HW0 := Aside0.mk hB.size; have HB := Aside0.mk hB; clear hB; have H : (if a1 ≤ 0 then (some (0, s0_1, s0_2)) else (if a1 ≤ 256 then ((spec_l1Byte.f s0_0 s0_1 s0_2).bind fun bt259 => (if a1 = 0 then (none) else (some (Int.tmod bt259.1 a1, bt259.2.1, bt259.2.2)))) else ((spec_l1Byte.f s0_0 s0_1 s0_2).bind fun bt262 => ((spec_l1Byte.f s0_0 bt262.2.1 bt262.2.2).bind fun bt265 => ((spec_l1Byte.f s0_0 bt265.2.1 bt265.2.2).bind fun bt268 => ((spec_l1Byte.f s0_0 bt268.2.1 bt268.2.2).bind fun bt271 => (if a1 = 0 then (none) else (some (Int.tmod (wrap64 ((wrap64 ((wrap64 ((wrap64 (bt262.1 * 16777216)) + (wrap64 (bt265.1 * 65536)))) + (wrap64 (bt268.1 * 256)))) + bt271.1)) a1, bt271.2.1, bt271.2.2))))))))) = some (r1, r2, r3) := h; clear h; by_cases c3 : a1 ≤ 0
 ·rw [if_pos c3] at H; have c3b0 : decide (a1 ≤ 0) = true := decide_eq_true c3; clear c3; simp only [Option.some.injEq, Prod.mk.injEq] at H; obtain ⟨rfl, rfl, rfl⟩ := H; go_enter Try.func50, Try.ntmps50; go_wp2; go_ret; exact ⟨zbc2, zbc5, zbc6, zbc7⟩
 ·rw [if_neg c3] at H; have c3b0 : decide (a1 ≤ 0) = false := decide_eq_false c3; clear c3; by_cases c4 : a1 ≤ 256
  ·rw [if_pos c4] at H; have c4b0 : decide (a1 ≤ 256) = true := decide_eq_true c4; clear c4; replace H := Option.bind_eq_some_iff.mp H; obtain ⟨⟨t259, t260, t261⟩, A50, H⟩ := H; dsimp only at H; have A5 := Aside0.mk A50; clear A50; by_cases c6 : a1 = 0
   ·rw [if_pos c6] at H; exact absurd H (by simp)
   ·rw [if_neg c6] at H; have c6b0 : (a1 == 0) = false := beq_eq_false_iff_ne.mpr c6; have c6b1 : (a1 != 0) = true := bne_iff_ne.mpr c6; simp only [Option.some.injEq, Prod.mk.injEq] at H; obtain ⟨rfl, rfl, rfl⟩ := H; go_enter Try.func50, Try.ntmps50; go_wp2_with (first | ((with_reducible refine gate_callee (f := 65) rfl ?_); refine goesL_ (some 14) rfl rfl Try.func65 (by kernel_rfl) rfl #[.pointer (some ⟨g, 0, none⟩)] rfl zbc3 ?_; (with_reducible refine (spec_l1Byte.calls g s0_0 s0_1 s0_2 t259 t260 t261 w0 _ ?side1 ?side2 A5.out).mono ?_); (case side1 => exact zbc5); (case side2 => exact zbc6); rintro e w7 ⟨rfl, hi, hb, hk⟩; refine ⟨_, rfl, ?_⟩; replace HK := Aside0.mk (KeepBut.trans zbc7 hk (.inl rfl)); replace HB := Aside0.mk (hb); replace HI0 := Aside0.mk (hi); clear hb hk hi)); go_ret; exact ⟨zbc2, zbc5, zbc6, zbc7⟩
  ·rw [if_neg c4] at H; have c4b0 : decide (a1 ≤ 256) = false := decide_eq_false c4; clear c4; replace H := Option.bind_eq_some_iff.mp H; obtain ⟨⟨t262, t263, t264⟩, A80, H⟩ := H; dsimp only at H; have A8 := Aside0.mk A80; clear A80; replace H := Option.bind_eq_some_iff.mp H; obtain ⟨⟨t265, t266, t267⟩, A90, H⟩ := H; dsimp only at H; have A9 := Aside0.mk A90; clear A90; replace H := Option.bind_eq_some_iff.mp H; obtain ⟨⟨t268, t269, t270⟩, A100, H⟩ := H; dsimp only at H; have A10 := Aside0.mk A100; clear A100; replace H := Option.bind_eq_some_iff.mp H; obtain ⟨⟨t271, t272, t273⟩, A110, H⟩ := H; dsimp only at H; have A11 := Aside0.mk A110; clear A110; by_cases c12 : a1 = 0
   ·rw [if_pos c12] at H; exact absurd H (by simp)
   ·rw [if_neg c12] at H; have c12b0 : (a1 == 0) = false := beq_eq_false_iff_ne.mpr c12; have c12b1 : (a1 != 0) = true := bne_iff_ne.mpr c12; simp only [Option.some.injEq, Prod.mk.injEq] at H; obtain ⟨rfl, rfl, rfl⟩ := H; go_enter Try.func50, Try.ntmps50; go_wp2_with (first | ((with_reducible refine gate_callee (f := 65) rfl ?_); refine goesL_ (some 18) rfl rfl Try.func65 (by kernel_rfl) rfl #[.pointer (some ⟨g, 0, none⟩)] rfl zbc3 ?_; (with_reducible refine (spec_l1Byte.calls g s0_0 s0_1 s0_2 t262 t263 t264 w0 _ ?side1 ?side2 A8.out).mono ?_); (case side1 => exact zbc5); (case side2 => exact zbc6); rintro e w13 ⟨rfl, hi, hb, hk⟩; refine ⟨_, rfl, ?_⟩; replace HK := Aside0.mk (KeepBut.trans zbc7 hk (.inl rfl)); replace HB := Aside0.mk (hb); replace HI0 := Aside0.mk (hi); clear hb hk hi) | ((with_reducible refine gate_callee (f := 65) rfl ?_); refine goesL_ (some 20) rfl rfl Try.func65 (by kernel_rfl) rfl #[.pointer (some ⟨g, 0, none⟩)] rfl zbc3 ?_; (with_reducible refine (spec_l1Byte.calls g s0_0 t263 t264 t265 t266 t267 w0 _ ?side1 ?side2 A9.out).mono ?_); (case side1 => exact zbc5); (case side2 => exact zbc6); rintro e w14 ⟨rfl, hi, hb, hk⟩; refine ⟨_, rfl, ?_⟩; replace HK := Aside0.mk (KeepBut.trans zbc7 hk (.inl rfl)); replace HB := Aside0.mk (hb); replace HI0 := Aside0.mk (hi); clear hb hk hi) | ((with_reducible refine gate_callee (f := 65) rfl ?_); refine goesL_ (some 22) rfl rfl Try.func65 (by kernel_rfl) rfl #[.pointer (some ⟨g, 0, none⟩)] rfl zbc3 ?_; (with_reducible refine (spec_l1Byte.calls g s0_0 t266 t267 t268 t269 t270 w0 _ ?side1 ?side2 A10.out).mono ?_); (case side1 => exact zbc5); (case side2 => exact zbc6); rintro e w15 ⟨rfl, hi, hb, hk⟩; refine ⟨_, rfl, ?_⟩; replace HK := Aside0.mk (KeepBut.trans zbc7 hk (.inl rfl)); replace HB := Aside0.mk (hb); replace HI0 := Aside0.mk (hi); clear hb hk hi) | ((with_reducible refine gate_callee (f := 65) rfl ?_); refine goesL_ (some 24) rfl rfl Try.func65 (by kernel_rfl) rfl #[.pointer (some ⟨g, 0, none⟩)] rfl zbc3 ?_; (with_reducible refine (spec_l1Byte.calls g s0_0 t269 t270 t271 t272 t273 w0 _ ?side1 ?side2 A11.out).mono ?_); (case side1 => exact zbc5); (case side2 => exact zbc6); rintro e w16 ⟨rfl, hi, hb, hk⟩; refine ⟨_, rfl, ?_⟩; replace HK := Aside0.mk (KeepBut.trans zbc7 hk (.inl rfl)); replace HB := Aside0.mk (hb); replace HI0 := Aside0.mk (hi); clear hb hk hi)); go_ret; exact ⟨zbc2, zbc5, zbc6, zbc7⟩

/-! ### spec_l1Once: function 51 -/
def spec_l1Once.f (s0_0 : List Int) (s0_1 : Int) (s0_2 : Int) (a1 : Int) : Option (Bool × Int × Int) := (spec_l1Below.f s0_0 s0_1 s0_2 a1).bind fun bt274 => (some ((bt274.1 == 0), bt274.2.1, bt274.2.2))
set_option maxHeartbeats 8000000 in
set_option maxRecDepth 100000 in
theorem spec_l1Once.calls (g : Nat) (s0_0 : List Int) (s0_1 : Int) (s0_2 : Int) (a1 : Int) (r1 : Bool) (r2 : Int) (r3 : Int) (w0 w : World) (hI : IsS82 w0 w g s0_0 s0_1 s0_2) (hB : Below w0.heap.size w0 w) (h : spec_l1Once.f s0_0 s0_1 s0_2 a1 = some (r1, r2, r3)) :
  Calls Try.prog 51 #[.pointer (some ⟨g, 0, none⟩), .int .i64 a1] w fun e w' => e = .returned (.bool r1) ∧ IsS82 w0 w' g s0_0 r2 r3 ∧ Below w0.heap.size w0 w' ∧ KeepBut w w' g none := by
 have HI0 := Aside0.mk hI; have HK := Aside0.mk (KeepBut.refl w g none); have HL := Aside0.mk hB.size; clear hI; have HW0 := Aside0.mk hB.size; have HB := Aside0.mk hB; clear hB; have H : ((spec_l1Below.f s0_0 s0_1 s0_2 a1).bind fun bt274 => (some ((bt274.1 == 0), bt274.2.1, bt274.2.2))) = some (r1, r2, r3) := h; clear h; replace H := Option.bind_eq_some_iff.mp H; obtain ⟨⟨t274, t275, t276⟩, A30, H⟩ := H; dsimp only at H; have A3 := Aside0.mk A30; clear A30; simp only [Option.some.injEq, Prod.mk.injEq] at H; obtain ⟨rfl, rfl, rfl⟩ := H; go_enter Try.func51, Try.ntmps51; go_wp2_with (first | ((with_reducible refine gate_callee (f := 50) rfl ?_); refine goesL_ (some 7) rfl rfl Try.func50 (by kernel_rfl) rfl #[.pointer (some ⟨g, 0, none⟩), .int .i64 a1] rfl zbc3 ?_; (with_reducible refine (spec_l1Below.calls g s0_0 s0_1 s0_2 a1 t274 t275 t276 w0 _ ?side1 ?side2 A3.out).mono ?_); (case side1 => exact zbc5); (case side2 => exact zbc6); rintro e w4 ⟨rfl, hi, hb, hk⟩; refine ⟨_, rfl, ?_⟩; replace HK := Aside0.mk (KeepBut.trans zbc7 hk (.inl rfl)); replace HB := Aside0.mk (hb); replace HI0 := Aside0.mk (hi); clear hb hk hi)); go_ret; exact ⟨zbc2, zbc5, zbc6, zbc7⟩

end Go.Proofs.Ytbgnjnlecpdfaaa.PFnRollBack
