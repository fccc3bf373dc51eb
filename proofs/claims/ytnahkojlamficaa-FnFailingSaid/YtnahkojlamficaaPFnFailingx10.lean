-- Laid by a program of this session: a turned copy of the kit's print, with contracts by hand beside.
import Derived.Test.YtnahkojlamficaaPFnFailingx0
import Derived.Test.YtnahkojlamficaaPFnFailingx9
namespace Go.Proofs.Ytnahkojlamficaa.PFnFailing
open Go.RowKit Go.Proofs.YtnahkojlamficaaW.PrintWords Go.Proofs.YtnahkojlamficaaW.PrintLast Go.Proofs.YtnahkojlamficaaW.PrintMore
theorem zba0 {X : Prop} (h : X := by repeat (first | (with_reducible first | exact HK.out | apply KeepBut.set_ | apply keep_drewN | apply keep_drew | apply keep_alloc) | exact HK.out)) : X := h
theorem zba1 {X : Prop} (h : X := by repeat (first | (with_reducible first | exact HB.out | apply below_alloc | apply pw_below_drewN | apply below_drew1 | refine below_set ?_ (IsS94.ge HI0.out)) | exact HB.out)) : X := h
theorem zba2 {X : Prop} (h : X := by repeat (first | (with_reducible first | exact HI0.out | apply IsS94.alloc | apply IsS94.drewN | apply IsS94.drew | apply IsS94.set_1 | apply IsS94.set_2) | exact HI0.out)) : X := h
theorem zba3 {A0 X : Prop} (a0 : A0) (h : A0 → X := by intro a0_; (with_reducible repeat (first | apply Kd.S_alloc | apply Kd.S_drewN | apply Kd.S_drew)); exact a0_) : X := h a0
theorem zba4 {X : Prop} (h : X := by first | rfl | (simp; done) | (simp [*]; done)) : X := h
theorem zba5 {A0 X : Prop} (a0 : A0) (h : A0 → X := by intro a0_; (with_reducible repeat (first | apply Kd.R_alloc | apply Kd.R_drewN | apply Kd.R_drew)); exact a0_) : X := h a0
theorem zba6 {X : Prop} (h : X := by (try simp only [List.map_toArray, List.map_cons, List.map_nil]); first | done | rfl | (simp only [List.length_drop, List.length_take]; rfl)) : X := h
theorem zba7 {X : Prop} (h : X := by first | (with_reducible assumption) | assumption) : X := h
theorem zba8 {X : Prop} (h : X := by first | (rw [add_block]; exact Kd.own_blk (IsS94.own_ne HI0.out HO_4.out (by decide))) | (show (Addr.add _ _).block ≠ _; rw [add_block]; exact Kd.own_blk (IsS94.own_ne HI0.out HO_4.out (by decide))) | exact Kd.own_blk (IsS94.own_ne HI0.out HO_4.out (by decide))) : X := h
theorem zba9 {X : Prop} (h : X := by simp only [putAll, Act.put, List.setIfInBounds_toArray, List.set_cons_zero, List.set_cons_succ]) : X := h
theorem zba10 {X : Prop} (h : X := by repeat (first | (with_reducible first | exact HI0.out | apply IsS94.alloc | apply IsS94.drewN | apply IsS94.drew | apply IsS94.set_1 | apply IsS94.set_2 | refine IsS94.far ?_ NB0_239.out _) | exact HI0.out)) : X := h
theorem zba11 {X : Prop} (h : X := by repeat (first | (with_reducible first | exact HK.out | apply KeepBut.set_ | apply keep_drewN | apply keep_drew | apply keep_alloc | refine keep_far ?_ GW239.out _) | exact HK.out)) : X := h
theorem zba12 {X : Prop} (h : X := by repeat (first | (with_reducible first | exact HB.out | apply below_alloc | apply pw_below_drewN | apply below_drew1 | refine below_set ?_ (IsS94.ge HI0.out) | refine below_set ?_ GE239.out) | exact HB.out)) : X := h
theorem zba13 {X : Prop} (h : X := by first | exact Kd.own_blk (Kd.R_ne HO_4.out BK239.out (by decide)) | (rw [add_block]; exact Kd.own_blk (Kd.R_ne HO_4.out BK239.out (by decide))) | (show (Addr.add _ _).block ≠ _; rw [add_block]; exact Kd.own_blk (Kd.R_ne HO_4.out BK239.out (by decide))) | (dsimp only; exact Kd.own_blk (Kd.R_ne HO_4.out BK239.out (by decide)))) : X := h
theorem zba14 {X : Prop} (h : X := by first | exact Kd.R_nil _ _ _ _ _ | exact Kd.N_nil _ _ _ _ _ | exact Kd.V_nil _ _ _ _ _ | exact Kd.Q_nil _ _ _ _ _ | exact Kd.S_nil _ _ _ _ _) : X := h
theorem zba15 {X : Prop} (h : X := by have := HK1.out; have := HK2.out; first | omega | exact Nat.le_refl _) : X := h
theorem zba16 {X : Prop} (h : X := by (with_reducible repeat (first | refine blk_drewN ?_ _ | refine blk_drew ?_ | refine blk_alloc ?_ _)); exact BK239.out) : X := h
theorem zba17 {X : Prop} (h : X := by have := HK1.out; have := HK2.out; have := HJ29.out; first | omega | exact Nat.le_refl _) : X := h
theorem zba18 {A0 X : Prop} (a0 : A0) (h : A0 → X := by intro a0_; (with_reducible repeat (first | apply Kd.R_alloc | apply Kd.R_drewN | apply Kd.R_drew)); exact Kd.R_mono (Kd.R_far (p := ⟨gb239, 1, none⟩) (Kd.R_types a0_ BK239.out (by decide)) (fun _ hk => hk.2) (.slice Ao46 y250.length co46)) (fun _ hk => ⟨hk.1.1, hk.1.2⟩)) : X := h a0
theorem zba19 {X : Prop} (h : X := by (with_reducible repeat (first | apply Kd.S_alloc | apply Kd.S_drewN | apply Kd.S_drew)); exact Kd.S_mono HO_3.out (fun _ hk => ⟨⟨hk.1, ⟨hk.2.1, hk.2.2.2⟩⟩, hk.2.2.1⟩)) : X := h
theorem zba20 {X : Prop} (h : X := by have := HK1.out; have := HK2.out; have := HJ29.out; have := HJ38.out; omega) : X := h
theorem zba21 {A0 X : Prop} (a0 : A0) (h : A0 → X := by intro a0_; (with_reducible repeat (first | apply Kd.R_alloc | apply Kd.R_drewN | apply Kd.R_drew)); exact Kd.R_mono (Kd.R_far (p := ⟨gb239, 2, none⟩) (Kd.R_types a0_ BK239.out (by decide)) (fun _ hk => hk.2) (.slice Ao57 y257.length co57)) (fun _ hk => ⟨hk.1.1, hk.1.2⟩)) : X := h a0
theorem zba22 {X : Prop} (h : X := by (with_reducible repeat (first | refine blk_drewN ?_ _ | refine blk_drew ?_ | refine blk_alloc ?_ _)); refine blk_put (cs := #[.string (rdOf ByteArray.empty y225 x5_1), u240001, u240002, .string ((⟨#[114, 117, 110, 32]⟩ : ByteArray) ++ t235), .bool t236]) ?_ 2 _ rfl; (with_reducible repeat (first | refine blk_drewN ?_ _ | refine blk_drew ?_ | refine blk_alloc ?_ _)); exact BK239.out) : X := h
theorem zba23 {A0 X : Prop} (a0 : A0) (h : A0 → X := by intro a0_; (with_reducible repeat (first | apply Kd.R_alloc | apply Kd.R_drewN | apply Kd.R_drew)); exact Kd.R_mono (Kd.R_far (p := ⟨gb239, 2, none⟩) (Kd.R_types a0_ BK239.out (by decide)) (fun _ hk => hk.2) (.slice Ao68 y264.length co68)) (fun _ hk => ⟨hk.1.1, hk.1.2⟩)) : X := h a0
theorem zba24 {X : Prop} (h : X := by (with_reducible repeat (first | apply Kd.S_alloc | apply Kd.S_drewN | apply Kd.S_drew)); exact Kd.S_mono HO_3.out (fun _ hk => trivial)) : X := h
theorem zba25 {X : Prop} (h : X := by first | exact q273 | exact of_decide_eq_true (by first | (with_reducible assumption) | assumption) | (have e_ := (Kd.S_reads' HO_3.out).1; omega)) : X := h
theorem zba26 {X : Prop} (h : X := by (with_reducible repeat (first | apply Kd.S_alloc | apply Kd.S_drewN | apply Kd.S_drew)); exact Kd.S_mono HO_3.out (fun k_ hk => ⟨trivial, fun e_ => e_⟩)) : X := h
theorem zba27 {X : Prop} (h : X := by have h_ : (t270 : Int) < ((x3_1.length : Int) : Int) := of_decide_eq_true (by first | (with_reducible assumption) | assumption); first | exact h_ | (have e_ := (Kd.S_reads' HO_3.out).1; omega) | simpa using h_) : X := h
theorem zba28 {X : Prop} (h : X := by first | rfl | (simp [errW_none, errW_some] <;> rfl) | (simp [*, errW_none, errW_some] <;> rfl)) : X := h
theorem zba29 {X : Prop} (h : X := by (with_reducible repeat (first | apply Kd.S_alloc | apply Kd.S_drewN | apply Kd.S_drew)); exact Kd.S_mono HO_3.out (fun k_ hk => ⟨trivial, fun e_ => hk e_⟩)) : X := h
theorem zba30 {A0 X : Prop} (a0 : A0) (h : A0 → X := by intro a0_; (with_reducible repeat (first | apply Kd.R_alloc | apply Kd.R_drewN | apply Kd.R_drew)); exact Kd.R_mono a0_ (fun _ hk => ⟨hk.2, hk.1.2⟩)) : X := h a0
attribute [local go_sem] max2_int min2_int max_two min_two max_three min_three max_four min_four   -- for this text's walks alone
set_option linter.unusedVariables false
set_option linter.unusedSimpArgs false

/-! ### spec_l18Draw: function 71 -/
mutual
def spec_l18Draw.l0 : Nat → List (S55) → List ByteArray → Int → List Int → Int → Int → Option ((List (S55)) × Int × Int)
 | 0, _, _, _, _, _, _ => none
 | k + 1, x3, x4, x5, x1000, x1001, x1002 => if x5 < (x4.length : Int) then ((spec_l1Once.f x1000 x1001 x1002 4).bind fun bt228 => (if bt228.1 = true then (spec_l18Draw.l0 k x3 x4 (wrap64 (x5 + 1)) x1000 bt228.2.1 bt228.2.2) else (if 0 ≤ x5 then ((spec_l1Below.f x1000 bt228.2.1 bt228.2.2 2).bind fun bt232 => ((spec_l2Int.f k bt232.1).bind fun t235 => (if 4 + t235.size ≤ 9223372036854775807 then ((spec_l1Once.f x1000 bt232.2.1 bt232.2.2 4).bind fun bt236 => (spec_l18Draw.l1 k x3 x4 x5 0 x1000 bt236.2.1 bt236.2.2 (rdOf ByteArray.empty x4 x5) ([] : List ByteArray) ([] : List ByteArray) ((⟨#[114, 117, 110, 32]⟩ : ByteArray) ++ t235) bt236.1)) else (none)))) else (none)))) else ((spec_l1Once.f x1000 x1001 x1002 14).bind fun bt267 => (if bt267.1 = true then (spec_l18Draw.j4 k x3 (decide ((x3.length : Int) > 0)) x1000 bt267.2.1 bt267.2.2) else (spec_l18Draw.j4 k x3 false x1000 bt267.2.1 bt267.2.2)))
def spec_l18Draw.l1 : Nat → List (S55) → List ByteArray → Int → Int → List Int → Int → Int → ByteArray → List ByteArray → List ByteArray → ByteArray → Bool → Option ((List (S55)) × Int × Int)
 | 0, _, _, _, _, _, _, _, _, _, _, _, _ => none
 | k + 1, x3, x4, x5, x7, x1000, x1001, x1002, x240000, x240001, x240002, x240003, x240004 => if x7 < (x4.length : Int) then ((spec_l1Once.f x1000 x1001 x1002 5).bind fun bt243 => (if bt243.1 = true then (if x7 < x5 then (spec_l18Draw.j2 k x3 x4 x5 x7 true x1000 bt243.2.1 bt243.2.2 x240000 x240001 x240002 x240003 x240004) else ((spec_l1Once.f x1000 bt243.2.1 bt243.2.2 5).bind fun bt246 => (spec_l18Draw.j2 k x3 x4 x5 x7 bt246.1 x1000 bt246.2.1 bt246.2.2 x240000 x240001 x240002 x240003 x240004))) else (spec_l18Draw.j2 k x3 x4 x5 x7 false x1000 bt243.2.1 bt243.2.2 x240000 x240001 x240002 x240003 x240004))) else (if x3.length < 1599289640401 then (spec_l18Draw.l0 k (x3 ++ [(⟨x240000, x240001, x240002, x240003, x240004⟩ : S55)]) x4 (wrap64 (x5 + 1)) x1000 x1001 x1002) else (none))
def spec_l18Draw.j2 : Nat → List (S55) → List ByteArray → Int → Int → Bool → List Int → Int → Int → ByteArray → List ByteArray → List ByteArray → ByteArray → Bool → Option ((List (S55)) × Int × Int)
 | 0, _, _, _, _, _, _, _, _, _, _, _, _, _ => none
 | k + 1, x3, x4, x5, x7, x46, x1000, x1001, x1002, x240000, x240001, x240002, x240003, x240004 => if x46 = true then (if 0 ≤ x7 then (if x7 < (x4.length : Int) then (if x240001.length < 8796093022208 then (spec_l18Draw.j3 k x3 x4 x5 x7 x1000 x1001 x1002 x240000 (x240001 ++ [rdOf ByteArray.empty x4 x7]) x240002 x240003 x240004) else (none)) else (none)) else (none)) else (spec_l18Draw.j3 k x3 x4 x5 x7 x1000 x1001 x1002 x240000 x240001 x240002 x240003 x240004)
def spec_l18Draw.j3 : Nat → List (S55) → List ByteArray → Int → Int → List Int → Int → Int → ByteArray → List ByteArray → List ByteArray → ByteArray → Bool → Option ((List (S55)) × Int × Int)
 | 0, _, _, _, _, _, _, _, _, _, _, _, _ => none
 | k + 1, x3, x4, x5, x7, x1000, x1001, x1002, x240000, x240001, x240002, x240003, x240004 => (spec_l1Once.f x1000 x1001 x1002 6).bind fun bt253 => (if bt253.1 = true then (if x7 < x5 then (if 0 ≤ x7 then (if x7 < (x4.length : Int) then (if x240002.length < 8796093022208 then (spec_l18Draw.l1 k x3 x4 x5 (wrap64 (x7 + 1)) x1000 bt253.2.1 bt253.2.2 x240000 x240001 (x240002 ++ [rdOf ByteArray.empty x4 x7]) x240003 x240004) else (none)) else (none)) else (none)) else ((spec_l1Once.f x1000 bt253.2.1 bt253.2.2 6).bind fun bt260 => (if bt260.1 = true then (if 0 ≤ x7 then (if x7 < (x4.length : Int) then (if x240002.length < 8796093022208 then (spec_l18Draw.l1 k x3 x4 x5 (wrap64 (x7 + 1)) x1000 bt260.2.1 bt260.2.2 x240000 x240001 (x240002 ++ [rdOf ByteArray.empty x4 x7]) x240003 x240004) else (none)) else (none)) else (none)) else (spec_l18Draw.l1 k x3 x4 x5 (wrap64 (x7 + 1)) x1000 bt260.2.1 bt260.2.2 x240000 x240001 x240002 x240003 x240004)))) else (spec_l18Draw.l1 k x3 x4 x5 (wrap64 (x7 + 1)) x1000 bt253.2.1 bt253.2.2 x240000 x240001 x240002 x240003 x240004))
def spec_l18Draw.j4 : Nat → List (S55) → Bool → List Int → Int → Int → Option ((List (S55)) × Int × Int)
 | 0, _, _, _, _, _ => none
 | k + 1, x3, x86, x1000, x1001, x1002 => if x86 = true then ((spec_l1Below.f x1000 x1001 x1002 (x3.length : Int)).bind fun bt270 => (if 0 ≤ bt270.1 then (if bt270.1 < (x3.length : Int) then ((spec_l1Below.f x1000 bt270.2.1 bt270.2.2 4).bind fun bt274 => (if bt274.1 = 0 then (some ((x3.set (bt270.1 : Int).toNat (⟨(⟨#[97]⟩ : ByteArray), (rd_T55 x3 bt270.1).f1, (rd_T55 x3 bt270.1).f2, (rd_T55 x3 bt270.1).f3, (rd_T55 x3 bt270.1).f4⟩ : S55)), bt274.2.1, bt274.2.2)) else (if bt274.1 = 1 then (some ((x3.set (bt270.1 : Int).toNat (⟨(rd_T55 x3 bt270.1).f0, (([(⟨#[98]⟩ : ByteArray), (⟨#[97]⟩ : ByteArray)] : List ByteArray)), (rd_T55 x3 bt270.1).f2, (rd_T55 x3 bt270.1).f3, (rd_T55 x3 bt270.1).f4⟩ : S55)), bt274.2.1, bt274.2.2)) else (if bt274.1 = 2 then (some ((x3.set (bt270.1 : Int).toNat (⟨(rd_T55 x3 bt270.1).f0, (rd_T55 x3 bt270.1).f1, (([(⟨#[]⟩ : ByteArray)] : List ByteArray)), (rd_T55 x3 bt270.1).f3, (rd_T55 x3 bt270.1).f4⟩ : S55)), bt274.2.1, bt274.2.2)) else (if bt274.1 = 3 then ((spec_l1Below.f x1000 bt274.2.1 bt274.2.2 2).bind fun bt286 => (if 0 ≤ (wrap64 (4000 + bt286.1)) then (if (wrap64 (4000 + bt286.1) : Int).toNat ≤ 281474976710656 then (some ((x3.set (bt270.1 : Int).toNat (⟨(rd_T55 x3 bt270.1).f0, (rd_T55 x3 bt270.1).f1, (rd_T55 x3 bt270.1).f2, strOfNums (List.replicate (wrap64 (4000 + bt286.1) : Int).toNat 0), (rd_T55 x3 bt270.1).f4⟩ : S55)), bt286.2.1, bt286.2.2)) else (none)) else (none))) else (some (x3, bt274.2.1, bt274.2.2))))))) else (none)) else (none))) else (some (x3, x1001, x1002))
end
def spec_l18Draw.f (k : Nat) (s0_0 : List Int) (s0_1 : Int) (s0_2 : Int) : Option ((List (S55)) × Int × Int) := spec_l18Draw.l0 k (([] : List (S55))) (([(⟨#[97]⟩ : ByteArray), (⟨#[98]⟩ : ByteArray), (⟨#[99]⟩ : ByteArray), (⟨#[100]⟩ : ByteArray), (⟨#[101]⟩ : ByteArray), (⟨#[102]⟩ : ByteArray)] : List ByteArray)) 0 s0_0 s0_1 s0_2
theorem spec_l18Draw.mono_l : ∀ k, (∀ y0 y1 y2 y3 y4 y5, LeO (spec_l18Draw.l0 k y0 y1 y2 y3 y4 y5) (spec_l18Draw.l0 (k + 1) y0 y1 y2 y3 y4 y5)) ∧ (∀ y0 y1 y2 y3 y4 y5 y6 y7 y8 y9 y10 y11, LeO (spec_l18Draw.l1 k y0 y1 y2 y3 y4 y5 y6 y7 y8 y9 y10 y11) (spec_l18Draw.l1 (k + 1) y0 y1 y2 y3 y4 y5 y6 y7 y8 y9 y10 y11)) ∧ (∀ y0 y1 y2 y3 y4 y5 y6 y7 y8 y9 y10 y11 y12, LeO (spec_l18Draw.j2 k y0 y1 y2 y3 y4 y5 y6 y7 y8 y9 y10 y11 y12) (spec_l18Draw.j2 (k + 1) y0 y1 y2 y3 y4 y5 y6 y7 y8 y9 y10 y11 y12)) ∧ (∀ y0 y1 y2 y3 y4 y5 y6 y7 y8 y9 y10 y11, LeO (spec_l18Draw.j3 k y0 y1 y2 y3 y4 y5 y6 y7 y8 y9 y10 y11) (spec_l18Draw.j3 (k + 1) y0 y1 y2 y3 y4 y5 y6 y7 y8 y9 y10 y11)) ∧ (∀ y0 y1 y2 y3 y4, LeO (spec_l18Draw.j4 k y0 y1 y2 y3 y4) (spec_l18Draw.j4 (k + 1) y0 y1 y2 y3 y4))
 | 0 => ⟨fun _ _ _ _ _ _ r h => by simp [spec_l18Draw.l0] at h, fun _ _ _ _ _ _ _ _ _ _ _ _ r h => by simp [spec_l18Draw.l1] at h, fun _ _ _ _ _ _ _ _ _ _ _ _ _ r h => by simp [spec_l18Draw.j2] at h, fun _ _ _ _ _ _ _ _ _ _ _ _ r h => by simp [spec_l18Draw.j3] at h, fun _ _ _ _ _ r h => by simp [spec_l18Draw.j4] at h⟩
 | k + 1 => by
  obtain ⟨ih0, ih1, ih2, ih3, ih4⟩ := spec_l18Draw.mono_l k
  refine ⟨?_, ?_, ?_, ?_, ?_⟩ <;> intros <;> (first | unfold spec_l18Draw.l0 | unfold spec_l18Draw.l1 | unfold spec_l18Draw.j2 | unfold spec_l18Draw.j3 | unfold spec_l18Draw.j4) <;>
   repeat' first
   | (with_reducible exact ih0 _ _ _ _ _ _)
   | (with_reducible exact ih1 _ _ _ _ _ _ _ _ _ _ _ _)
   | (with_reducible exact ih2 _ _ _ _ _ _ _ _ _ _ _ _ _)
   | (with_reducible exact ih3 _ _ _ _ _ _ _ _ _ _ _ _)
   | (with_reducible exact ih4 _ _ _ _ _)
   | (with_reducible exact spec_l2Int.mono _ _)
   | (with_reducible exact LeO.refl _)
   | (with_reducible exact LeO.none _)
   | (with_reducible refine LeO.ite ?_ ?_)
   | (with_reducible refine LeO.bind ?_ (fun _ => ?_))
   | exact ih0 _ _ _ _ _ _
   | exact ih1 _ _ _ _ _ _ _ _ _ _ _ _
   | exact ih2 _ _ _ _ _ _ _ _ _ _ _ _ _
   | exact ih3 _ _ _ _ _ _ _ _ _ _ _ _
   | exact ih4 _ _ _ _ _
   | exact spec_l2Int.mono _ _
   | exact LeO.none _
   | refine LeO.ite ?_ ?_
   | refine LeO.bind ?_ (fun _ => ?_)
theorem spec_l18Draw.mono : ∀ a0 a1 a2 k, LeO (spec_l18Draw.f k a0 a1 a2) (spec_l18Draw.f (k + 1) a0 a1 a2) := by
 intro a0 a1 a2 k
 obtain ⟨ih0, ih1, ih2, ih3, ih4⟩ := spec_l18Draw.mono_l k
 unfold spec_l18Draw.f
 repeat' first
   | (with_reducible exact ih0 _ _ _ _ _ _)
   | (with_reducible exact ih1 _ _ _ _ _ _ _ _ _ _ _ _)
   | (with_reducible exact ih2 _ _ _ _ _ _ _ _ _ _ _ _ _)
   | (with_reducible exact ih3 _ _ _ _ _ _ _ _ _ _ _ _)
   | (with_reducible exact ih4 _ _ _ _ _)
   | (with_reducible exact spec_l2Int.mono _ _)
   | (with_reducible exact LeO.refl _)
   | (with_reducible exact LeO.none _)
   | (with_reducible refine LeO.ite ?_ ?_)
   | (with_reducible refine LeO.bind ?_ (fun _ => ?_))
   | exact ih0 _ _ _ _ _ _
   | exact ih1 _ _ _ _ _ _ _ _ _ _ _ _
   | exact ih2 _ _ _ _ _ _ _ _ _ _ _ _ _
   | exact ih3 _ _ _ _ _ _ _ _ _ _ _ _
   | exact ih4 _ _ _ _ _
   | exact spec_l2Int.mono _ _
   | exact LeO.none _
   | refine LeO.ite ?_ ?_
   | refine LeO.bind ?_ (fun _ => ?_)
def spec_l18Draw.T7 : Bool × List (List Nat × List Nat) := (true, [([], []), ([], []), ([0, 1], [0, 1]), ([2], [2]), ([], []), ([4], [4]), ([5, 5], [5]), ([6], [6]), ([], []), ([8, 6], [8]), ([3, 7, 9], [3, 7, 9]), ([], []), ([11, 10, 9, 0, 1, 2, 3, 4, 5, 6, 7, 8, 9, 10, 11], [10, 11])])
def spec_l18Draw.B7 : List Nat := [0, 0, 3, 7, 0, 16, 48, 112, 0, 368, 1023, 0, 4095]
theorem spec_l18Draw.tab7 : rtab .any (opsOf Try.f71 7) = spec_l18Draw.T7 := by kernel_rfl
theorem spec_l18Draw.bits7 : waitsOk spec_l18Draw.T7.2 spec_l18Draw.B7 = true := by kernel_rfl
def spec_l18Draw.T12 : Bool × List (List Nat × List Nat) := (true, [([], []), ([0], [0]), ([], []), ([], []), ([2, 3], [2, 3]), ([4], [4]), ([5], [5]), ([1, 6], [1, 6]), ([0, 1, 2, 3, 4, 5, 6, 7], []), ([8, 7, 7, 0, 1, 2, 3, 4, 5, 6, 7], [7, 8])])
def spec_l18Draw.B12 : List Nat := [0, 1, 0, 0, 12, 28, 60, 127, 255, 511]
theorem spec_l18Draw.tab12 : rtab .any (opsOf Try.f71 12) = spec_l18Draw.T12 := by kernel_rfl
theorem spec_l18Draw.bits12 : waitsOk spec_l18Draw.T12.2 spec_l18Draw.B12 = true := by kernel_rfl
def spec_l18Draw.T14 : Bool × List (List Nat × List Nat) := (true, [([], []), ([0], [0]), ([], []), ([], []), ([2, 3], [2, 3]), ([4], [4]), ([5], [5]), ([1, 6], [1, 6]), ([0, 1, 2, 3, 4, 5, 6, 7], []), ([8, 7, 7, 0, 1, 2, 3, 4, 5, 6, 7], [7, 8])])
def spec_l18Draw.B14 : List Nat := [0, 1, 0, 0, 12, 28, 60, 127, 255, 511]
theorem spec_l18Draw.tab14 : rtab .any (opsOf Try.f71 14) = spec_l18Draw.T14 := by kernel_rfl
theorem spec_l18Draw.bits14 : waitsOk spec_l18Draw.T14.2 spec_l18Draw.B14 = true := by kernel_rfl
set_option maxHeartbeats 8000000 in
set_option maxRecDepth 100000 in
theorem spec_l18Draw.calls (k : Nat) (g : Nat) (s0_0 : List Int) (s0_1 : Int) (s0_2 : Int) (r1 : List (S55)) (r2 : Int) (r3 : Int) (w0 w : World) (hI : IsS94 w0 w g s0_0 s0_1 s0_2) (hB : Below w0.heap.size w0 w) (h : spec_l18Draw.f k s0_0 s0_1 s0_2 = some (r1, r2, r3)) :
  Calls Try.prog 71 #[.pointer (some ⟨g, 0, none⟩)] w fun e w' => ∃ v0_ : Value, e = .returned (v0_) ∧ Kd.S k55 55 w' w.heap.size (fun _ => True) v0_ r1 ∧ IsS94 w0 w' g s0_0 r2 r3 ∧ Below w0.heap.size w0 w' ∧ KeepBut w w' g none := by
 have hu55 := Try.underlying55
 have HI0 := Aside0.mk hI
 have HK := Aside0.mk (KeepBut.refl w g none)
 have HL := Aside0.mk hB.size
 clear hI
 have HW0 := Aside0.mk hB.size
 have HB := Aside0.mk hB
 clear hB
 have H : (spec_l18Draw.l0 k (([] : List (S55))) (([(⟨#[97]⟩ : ByteArray), (⟨#[98]⟩ : ByteArray), (⟨#[99]⟩ : ByteArray), (⟨#[100]⟩ : ByteArray), (⟨#[101]⟩ : ByteArray), (⟨#[102]⟩ : ByteArray)] : List ByteArray)) 0 s0_0 s0_1 s0_2) = some (r1, r2, r3) := h
 clear h
 obtain ⟨y222, hy222⟩ : ∃ y_ : List (S55), y_ = (([] : List (S55))) := ⟨_, rfl⟩
 replace H : (spec_l18Draw.l0 k y222 (([(⟨#[97]⟩ : ByteArray), (⟨#[98]⟩ : ByteArray), (⟨#[99]⟩ : ByteArray), (⟨#[100]⟩ : ByteArray), (⟨#[101]⟩ : ByteArray), (⟨#[102]⟩ : ByteArray)] : List ByteArray)) 0 s0_0 s0_1 s0_2) = some (r1, r2, r3) := by first | (rw [hy222]; with_reducible exact H) | (have H2_ := (Option.bind_some _ _).symm.trans H; rw [hy222]; with_reducible exact H2_) | (have H2_ := (Option.bind_some _ _).symm.trans H; with_reducible exact H2_) | with_reducible exact H | (rw [hy222]; exact H) | exact H
 have Ny222 := Aside0.mk hy222
 clear hy222
 obtain ⟨y225, hy225⟩ : ∃ y_ : List ByteArray, y_ = (([(⟨#[97]⟩ : ByteArray), (⟨#[98]⟩ : ByteArray), (⟨#[99]⟩ : ByteArray), (⟨#[100]⟩ : ByteArray), (⟨#[101]⟩ : ByteArray), (⟨#[102]⟩ : ByteArray)] : List ByteArray)) := ⟨_, rfl⟩
 replace H : (spec_l18Draw.l0 k y222 y225 0 s0_0 s0_1 s0_2) = some (r1, r2, r3) := by first | (rw [hy225]; with_reducible exact H) | (have H2_ := (Option.bind_some _ _).symm.trans H; rw [hy225]; with_reducible exact H2_) | (have H2_ := (Option.bind_some _ _).symm.trans H; with_reducible exact H2_) | with_reducible exact H | (rw [hy225]; exact H) | exact H
 have Ny225 := Aside0.mk hy225
 clear hy225
 have H' := Aside0.mk H
 clear H
 go_enter Try.func71, Try.ntmps71
 go_wp2_with (first | ((with_reducible refine gate_dst (N := 9) rfl ?_); (try (refine gate_guard (by rfl) ?_; dsimp only)); refine Kd.S_lit k55 _ 55 ?hg (N := 9) ?hd (xs := ([] : List (S55))) (inner := []) (ok := fun _ => True) (okp := fun _ => True) ?hr ?hp (fun _ hk => hk) trivial (Below.refl _ _) (Nat.le_refl _) (by simp) ?_; (case hd => rfl); (case hg => rfl); (case hr => first | (go_simp; done) | (go_simp; rfl)); (case hp => exact (Reps.none _ _)); intro v223 w2 ho3 hb hg_ hnew_; clear hg_ hnew_; (first | rw [← Ny222.out] at ho3 | (simp only [Int.reduceToNat] at ho3; rw [← Ny222.out] at ho3)); have HO224 := Aside0.mk (Kd.S_lower ho3 (keep_size (w := w) (g := g) (row := none) zba0)); replace HK := Aside0.mk (KeepBut.trans zba0 (KeepBut.of_below hb g none) (.inl rfl)); replace HB := Aside0.mk (below_step zba1 hb); replace HI0 := Aside0.mk (IsS94.below zba2 hb); clear hb ho3) | ((with_reducible refine gate_dst (N := 10) rfl ?_); (try (refine gate_guard (by rfl) ?_; dsimp only)); refine Kd.R_lit Kd.string _ 9 ?hg (N := 10) ?hd (xs := ([(⟨#[97]⟩ : ByteArray), (⟨#[98]⟩ : ByteArray), (⟨#[99]⟩ : ByteArray), (⟨#[100]⟩ : ByteArray), (⟨#[101]⟩ : ByteArray), (⟨#[102]⟩ : ByteArray)] : List ByteArray)) (inner := [.string (⟨#[97]⟩ : ByteArray), .string (⟨#[98]⟩ : ByteArray), .string (⟨#[99]⟩ : ByteArray), .string (⟨#[100]⟩ : ByteArray), .string (⟨#[101]⟩ : ByteArray), .string (⟨#[102]⟩ : ByteArray)]) (ok := fun _ => True) (okp := fun _ => True) ?hr ?hp (fun _ hk => hk) trivial (Below.refl _ _) (Nat.le_refl _) (by simp) ?_; (case hd => rfl); (case hg => rfl); (case hr => first | (go_simp; done) | (go_simp; rfl)); (case hp => exact (Reps.one (show Kd.M Kd.string _ _ _ (⟨#[97]⟩ : ByteArray) [.string (⟨#[97]⟩ : ByteArray)] from rfl) (Reps.one (show Kd.M Kd.string _ _ _ (⟨#[98]⟩ : ByteArray) [.string (⟨#[98]⟩ : ByteArray)] from rfl) (Reps.one (show Kd.M Kd.string _ _ _ (⟨#[99]⟩ : ByteArray) [.string (⟨#[99]⟩ : ByteArray)] from rfl) (Reps.one (show Kd.M Kd.string _ _ _ (⟨#[100]⟩ : ByteArray) [.string (⟨#[100]⟩ : ByteArray)] from rfl) (Reps.one (show Kd.M Kd.string _ _ _ (⟨#[101]⟩ : ByteArray) [.string (⟨#[101]⟩ : ByteArray)] from rfl) (Reps.one (show Kd.M Kd.string _ _ _ (⟨#[102]⟩ : ByteArray) [.string (⟨#[102]⟩ : ByteArray)] from rfl) (Reps.none _ _)))))))); intro v226 w4 ho5 hb hg_ hnew_; clear hg_ hnew_; (first | rw [← Ny225.out] at ho5 | (simp only [Int.reduceToNat] at ho5; rw [← Ny225.out] at ho5)); replace HO224 := Aside0.mk (Kd.S_elder' (zba3 HO224.out) (Kd.R_base ho5) hb); have HO227 := Aside0.mk (Kd.R_lower ho5 (keep_size (w := w) (g := g) (row := none) zba0)); replace HK := Aside0.mk (KeepBut.trans zba0 (KeepBut.of_below hb g none) (.inl rfl)); replace HB := Aside0.mk (below_step zba1 hb); replace HI0 := Aside0.mk (IsS94.below zba2 hb); clear hb ho5))
 go_loopg [3, 5] k (fun kq v3 v5 w' => ∃ (x3_1 : List (S55)) (x5_1 : Int) (x1001_1 : Int) (x1002_1 : Int), v5 = .int .i64 x5_1 ∧ Aside0 (spec_l18Draw.l0 kq x3_1 y225 x5_1 s0_0 x1001_1 x1002_1 = some (r1, r2, r3)) ∧ Aside0 (kq ≤ k) ∧ Aside0 (Kd.S k55 55 w' w.heap.size (fun k_ => some k_ ≠ (v226 : Value).ownBlock) v3 x3_1) ∧ Aside0 (Kd.R Kd.string 9 w' w.heap.size (fun _ => True) v226 y225) ∧ Aside0 (IsS94 w0 w' g s0_0 x1001_1 x1002_1) ∧ Aside0 (KeepBut w w' g none) ∧ Aside0 (Below w0.heap.size w0 w'))
 case atStart => exact ⟨(y222), (0), (s0_1), (s0_2), zba4, H', ⟨Nat.le_refl _⟩, ⟨by (with_reducible repeat (first | apply Kd.S_alloc | apply Kd.S_drewN | apply Kd.S_drew)); exact Kd.S_mono HO224.out (fun _ hk => hk.2)⟩, ⟨zba5 HO227.out⟩, ⟨zba2⟩, ⟨zba0⟩, ⟨zba1⟩⟩
 case round =>
  clear H'
  try clear p2
  obtain ⟨x3_1, x5_1, x1001_1, x1002_1, rfl, HA, HK1, HO_3, HO_4, HI0, HK, HB⟩ := hrel
  cases gk with
  | zero => exact absurd HA.out (by simp [spec_l18Draw.l0])
  | succ k1 =>
   have H := HA.out
   clear HA
   simp only [spec_l18Draw.l0] at H
   by_cases c6 : x5_1 < (y225.length : Int)
   ·rw [if_pos c6] at H
    have c6b0 : decide (x5_1 < (y225.length : Int)) = true := decide_eq_true c6
    clear c6
    replace H := Option.bind_eq_some_iff.mp H
    obtain ⟨⟨t228, t229, t230⟩, A70, H⟩ := H
    replace H : (if t228 = true then (spec_l18Draw.l0 k1 x3_1 y225 (wrap64 (x5_1 + 1)) s0_0 t229 t230) else (if 0 ≤ x5_1 then ((spec_l1Below.f s0_0 t229 t230 2).bind fun bt232 => ((spec_l2Int.f k1 bt232.1).bind fun t235 => (if 4 + t235.size ≤ 9223372036854775807 then ((spec_l1Once.f s0_0 bt232.2.1 bt232.2.2 4).bind fun bt236 => (spec_l18Draw.l1 k1 x3_1 y225 x5_1 0 s0_0 bt236.2.1 bt236.2.2 (rdOf ByteArray.empty y225 x5_1) ([] : List ByteArray) ([] : List ByteArray) ((⟨#[114, 117, 110, 32]⟩ : ByteArray) ++ t235) bt236.1)) else (none)))) else (none))) = some (r1, r2, r3) := H
    have A7 := Aside0.mk A70
    clear A70
    by_cases c8 : t228 = true
    ·subst c8
     have H1 : (spec_l18Draw.l0 k1 x3_1 y225 (wrap64 (x5_1 + 1)) s0_0 t229 t230) = some (r1, r2, r3) := by rw [if_pos rfl] at H; exact H
     clear H
     have H := H1
     clear H1
     have H' := Aside0.mk H
     clear H
     obtain ⟨Ao9, co9, eo9⟩ := Kd.R_slice HO_4.out
     subst eo9
     go_wp2_with (first | ((with_reducible refine gate_callee (f := 73) rfl ?_); refine goesL_ (some 18) rfl rfl Try.func73 (by kernel_rfl) rfl #[.pointer (some ⟨g, 0, none⟩), .int .i64 4] rfl zba6 ?_; (with_reducible refine (spec_l1Once.calls g s0_0 x1001_1 x1002_1 4 true t229 t230 w0 _ ?side1 ?side2 A7.out).mono ?_); (case side1 => exact zba2); (case side2 => exact zba1); rintro e w10 ⟨rfl, hi, hb, hk⟩; refine ⟨_, rfl, ?_⟩; replace HO_3 := Aside0.mk (Kd.S_mono (Kd.S_keep (IsS94.apartS (show IsS94 w0 _ g s0_0 x1001_1 x1002_1 from zba2) (zba3 HO_3.out) (by decide)) hk (fun _ h => h.2)) (fun _ h => h.1)); replace HO_4 := Aside0.mk (Kd.R_mono (Kd.R_keep (IsS94.apart (show IsS94 w0 _ g s0_0 x1001_1 x1002_1 from zba2) (zba5 HO_4.out) (by decide)) hk (fun _ h => h.2)) (fun _ h => h.1)); replace HK := Aside0.mk (KeepBut.trans zba0 hk (.inl rfl)); replace HB := Aside0.mk (hb); replace HI0 := Aside0.mk (hi); (try clear hb); (try clear hb2); (try clear hk); (try clear hi)))
     go_roundg k1
     case measure => have := HK1.out; omega
     case rel => exact ⟨(x3_1), (wrap64 (x5_1 + 1)), (t229), (t230), zba4, H', ⟨by have := HK1.out; omega⟩, ⟨zba3 HO_3.out⟩, ⟨zba5 HO_4.out⟩, ⟨zba2⟩, ⟨zba0⟩, ⟨zba1⟩⟩
    ·replace c8 := Bool.eq_false_iff.mpr c8
     subst c8
     have H1 : (if 0 ≤ x5_1 then ((spec_l1Below.f s0_0 t229 t230 2).bind fun bt232 => ((spec_l2Int.f k1 bt232.1).bind fun t235 => (if 4 + t235.size ≤ 9223372036854775807 then ((spec_l1Once.f s0_0 bt232.2.1 bt232.2.2 4).bind fun bt236 => (spec_l18Draw.l1 k1 x3_1 y225 x5_1 0 s0_0 bt236.2.1 bt236.2.2 (rdOf ByteArray.empty y225 x5_1) ([] : List ByteArray) ([] : List ByteArray) ((⟨#[114, 117, 110, 32]⟩ : ByteArray) ++ t235) bt236.1)) else (none)))) else (none)) = some (r1, r2, r3) := by rw [if_neg (show ¬ (false = true) by decide)] at H; exact H
     clear H
     have H := H1
     clear H1
     by_cases c11 : 0 ≤ x5_1
     ·rw [if_pos c11] at H
      have c11b0 : decide (0 ≤ x5_1) = true := decide_eq_true c11
      clear c11
      replace H := Option.bind_eq_some_iff.mp H
      obtain ⟨⟨t232, t233, t234⟩, A120, H⟩ := H
      replace H : ((spec_l2Int.f k1 t232).bind fun t235 => (if 4 + t235.size ≤ 9223372036854775807 then ((spec_l1Once.f s0_0 t233 t234 4).bind fun bt236 => (spec_l18Draw.l1 k1 x3_1 y225 x5_1 0 s0_0 bt236.2.1 bt236.2.2 (rdOf ByteArray.empty y225 x5_1) ([] : List ByteArray) ([] : List ByteArray) ((⟨#[114, 117, 110, 32]⟩ : ByteArray) ++ t235) bt236.1)) else (none))) = some (r1, r2, r3) := H
      have A12 := Aside0.mk A120
      clear A120
      replace H := Option.bind_eq_some_iff.mp H
      obtain ⟨t235, A130, H⟩ := H
      replace H : (if 4 + t235.size ≤ 9223372036854775807 then ((spec_l1Once.f s0_0 t233 t234 4).bind fun bt236 => (spec_l18Draw.l1 k1 x3_1 y225 x5_1 0 s0_0 bt236.2.1 bt236.2.2 (rdOf ByteArray.empty y225 x5_1) ([] : List ByteArray) ([] : List ByteArray) ((⟨#[114, 117, 110, 32]⟩ : ByteArray) ++ t235) bt236.1)) else (none)) = some (r1, r2, r3) := H
      have A13 := Aside0.mk A130
      clear A130
      by_cases c14 : 4 + t235.size ≤ 9223372036854775807
      ·rw [if_pos c14] at H
       have c14b0 := eq_true c14
       have c14b1 : decide (4 + t235.size ≤ 9223372036854775807) = true := decide_eq_true c14
       try have c14b2 : (9223372036854775807 < 4 + t235.size) = False := eq_false (Nat.not_lt.2 c14)
       try (have c14b3 := Nat.not_lt.2 c14; simp only [ByteArray.size_append, ByteArray.size_mk', List.size_toArray, List.length_cons, List.length_nil, Nat.zero_add, Nat.reduceAdd] at c14b3; replace c14b3 := eq_false c14b3)
       replace H := Option.bind_eq_some_iff.mp H
       obtain ⟨⟨t236, t237, t238⟩, A150, H⟩ := H
       replace H : (spec_l18Draw.l1 k1 x3_1 y225 x5_1 0 s0_0 t237 t238 (rdOf ByteArray.empty y225 x5_1) ([] : List ByteArray) ([] : List ByteArray) ((⟨#[114, 117, 110, 32]⟩ : ByteArray) ++ t235) t236) = some (r1, r2, r3) := H
       have A15 := Aside0.mk A150
       clear A150
       have H' := Aside0.mk H
       clear H
       obtain ⟨Ao16, co16, eo16⟩ := Kd.R_slice HO_4.out
       subst eo16
       try go_wp2_with (first | ((with_reducible refine gate_callee (f := 73) rfl ?_); refine goesL_ (some 18) rfl rfl Try.func73 (by kernel_rfl) rfl #[.pointer (some ⟨g, 0, none⟩), .int .i64 4] rfl zba6 ?_; (with_reducible refine (spec_l1Once.calls g s0_0 x1001_1 x1002_1 4 false t229 t230 w0 _ ?side1 ?side2 A7.out).mono ?_); (case side1 => exact zba2); (case side2 => exact zba1); rintro e w17 ⟨rfl, hi, hb, hk⟩; refine ⟨_, rfl, ?_⟩; replace HO_3 := Aside0.mk (Kd.S_mono (Kd.S_keep (IsS94.apartS (show IsS94 w0 _ g s0_0 x1001_1 x1002_1 from zba2) (zba3 HO_3.out) (by decide)) hk (fun _ h => h.2)) (fun _ h => h.1)); replace HO_4 := Aside0.mk (Kd.R_mono (Kd.R_keep (IsS94.apart (show IsS94 w0 _ g s0_0 x1001_1 x1002_1 from zba2) (zba5 HO_4.out) (by decide)) hk (fun _ h => h.2)) (fun _ h => h.1)); replace HK := Aside0.mk (KeepBut.trans zba0 hk (.inl rfl)); replace HB := Aside0.mk (hb); replace HI0 := Aside0.mk (hi); (try clear hb); (try clear hb2); (try clear hk); (try clear hi)))
       replace HO_3 := Aside0.mk (Kd.S_drew HO_3.out)
       replace HO_4 := Aside0.mk (Kd.R_drew HO_4.out)
       replace HI0 := Aside0.mk (IsS94.drew HI0.out)
       replace HK := Aside0.mk (keep_drew HK.out)
       replace HB := Aside0.mk (below_drew1 HB.out)
       have p231 : 0 ≤ (x5_1 : Int) := of_decide_eq_true zba7
       have q231 : x5_1 < (y225.length : Int) := of_decide_eq_true zba7
       obtain ⟨ad231, e231, hx231_0⟩ := Kd.at_string (Kd.R_reads' HO_4.out).2.2 x5_1 p231 q231
       cases e231
       replace p231 := eq_true p231
       replace q231 := eq_true q231
       refine start_ (n := 13) (S := fun w' => w'.cell? (ad231.add (x5_1).toNat) = some (.string (rdOf ByteArray.empty y225 x5_1))) (ds := []) (tf 13 0) (by kernel_rfl) rfl rfl (hx231_0) (fun hHeld => ?_); refine with_tabW spec_l18Draw.tab7 spec_l18Draw.bits7 (fun HT_ HW_ => ?_)
       generalize w17.drew = w18 at HO_3 HO_4 HI0 HK HB hx231_0 hHeld ⊢
       refine qA 0 19 (tf 13 1) ?_
       refine qA 1 20 (tf 13 3) ?_
       refine qA 2 21 (tf 13 7) ?_
       refine qA 4 23 (tf 13 23) ?_
       refine qA 8 27 (tf 13 279) ?_
       refine tK_ 3 22 ?_ (tf 13 287) rfl rfl (take_ofW HT_.out HW_.out (by kernel_rfl)) (fun _ _ _ h => h) (by rfl) ?_ hHeld ?_ ?_ ?_
       rotate_left
       ·intro w' s0
        go_simp
        with_reducible rfl
       (rotate_left; · simp only [Act.put, sT, s0, sS, i64_w, i32_w]; rfl)
       refine join_ (σ := Nat) 1 (tf 13 4095) (fun s_ => [(24, .int .i64 t232), (25, .string t235), (28, .bool t236), (6, .pointer (some ⟨s_, 0, none⟩)), (26, .string ((⟨#[114, 117, 110, 32]⟩ : ByteArray) ++ t235)), (29, .agg #[.string (rdOf ByteArray.empty y225 x5_1), .slice none 0 0, .slice none 0 0, .string ((⟨#[114, 117, 110, 32]⟩ : ByteArray) ++ t235), .bool t236])]) (fun s_ w' => (w'.cell? (ad231.add (x5_1).toNat) = some (.string (rdOf ByteArray.empty y225 x5_1))) ∧ (Kd.S k55 55 w' w.heap.size (fun k_ => some k_ ≠ (.slice (some ad231) y225.length co16 : Value).ownBlock ∧ k_ ≠ s_) u3 x3_1) ∧ (Kd.R Kd.string 9 w' w.heap.size (fun _ => True) (.slice (some ad231) y225.length co16) y225) ∧ (w'.heap[s_]? = some (.cells #[.string (⟨#[]⟩ : ByteArray), .slice none 0 0, .slice none 0 0, .string (⟨#[]⟩ : ByteArray), .bool false] 55 (0, 0))) ∧ (w.heap.size ≤ s_) ∧ (w0.heap.size ≤ s_) ∧ (g ≠ s_) ∧ (s_ ≠ g) ∧ (IsS94 w0 w' g s0_0 t237 t238) ∧ (KeepBut w w' g none) ∧ (Below w0.heap.size w0 w')) ?_ ?_
       rotate_left
       ·intro hCont
        refine two_ (i := 5) (j := 11) (Ni := some 24) (Nj := some 6) (tf 13 319) (tf 13 2335) rfl rfl rfl rfl (two_of HT_.out (by kernel_rfl)) (by decide) (by decide) (fun K hK => ?_) (fun K hK => ?_)
        ·skip
         refine goes_ Try.func74 (by kernel_rfl) rfl #[.pointer (some ⟨g, 0, none⟩), .int .i64 2] (by rfl) rfl rfl zba6 ?_
         with_reducible refine (spec_l1Below.calls g s0_0 t229 t230 2 t232 t233 t234 w0 _ ?side1 ?side2 A12.out).mono ?_
         (case side1 => exact zba2)
         (case side2 => exact zba1)
         rintro e w19 ⟨rfl, hi, hb, hk⟩
         have HS0_ := keep_cell hk (hHeld) zba8
         refine ⟨_, rfl, ?_⟩
         replace HO_3 := Aside0.mk (Kd.S_mono (Kd.S_keep (IsS94.apartS (show IsS94 w0 _ g s0_0 t229 t230 from zba2) (zba3 HO_3.out) (by decide)) hk (fun _ h => h.2)) (fun _ h => h.1))
         replace HO_4 := Aside0.mk (Kd.R_mono (Kd.R_keep (IsS94.apart (show IsS94 w0 _ g s0_0 t229 t230 from zba2) (zba5 HO_4.out) (by decide)) hk (fun _ h => h.2)) (fun _ h => h.1))
         replace HK := Aside0.mk (KeepBut.trans zba0 hk (.inl rfl))
         replace HB := Aside0.mk (hb)
         replace HI0 := Aside0.mk (hi)
         (try clear hb)
         (try clear hb2)
         (try clear hk)
         (try clear hi)
         refine hK.out _ _ (HS0_) (fun hHeld => ?_)
         clear hK K
         refine norm_ (a' := ?_) ?_ ?_
         rotate_left
         ·show Act.put _ (some 24) _ = _
          simp only [Act.put, sT, s0, sS, i64_w, i32_w]
          rfl
         refine two_ (i := 6) (j := 11) (Ni := some 25) (Nj := some 6) (tf 13 383) (tf 13 2367) rfl rfl rfl rfl (two_of HT_.out (by kernel_rfl)) (by decide) (by decide) (fun K hK => ?_) (fun K hK => ?_)
         ·skip
          refine goes_ Try.func82 (by kernel_rfl) rfl #[.int .i64 t232] (by rfl) rfl rfl zba6 ?_
          with_reducible refine (spec_l2Int.calls k1 t232 t235 _ A13.out).mono ?_
          rintro e w20 ⟨rfl, hb⟩
          have HS0_ := (hb.cell (World.block_lt_of_cell? _ _ (hHeld))).trans (hHeld)
          refine ⟨_, rfl, ?_⟩
          replace HO_3 := Aside0.mk (Kd.S_below (zba3 HO_3.out) hb)
          replace HO_4 := Aside0.mk (Kd.R_below (zba5 HO_4.out) hb)
          replace HK := Aside0.mk (KeepBut.trans zba0 (KeepBut.of_below hb g none) (.inl rfl))
          replace HB := Aside0.mk (below_step zba1 hb)
          replace HI0 := Aside0.mk (IsS94.below zba2 hb)
          (try clear hb)
          (try clear hb2)
          (try clear hk)
          (try clear hi)
          refine hK.out _ _ (HS0_) (fun hHeld => ?_)
          clear hK K
          refine norm_ (a' := ?_) ?_ ?_
          rotate_left
          ·show Act.put _ (some 25) _ = _
           simp only [Act.put, sT, s0, sS, i64_w, i32_w]
           rfl
          refine qA 7 26 (tf 13 511) ?_
          refine two_ (i := 9) (j := 11) (Ni := some 28) (Nj := some 6) (tf 13 1023) (tf 13 2559) rfl rfl rfl rfl (two_of HT_.out (by kernel_rfl)) (by decide) (by decide) (fun K hK => ?_) (fun K hK => ?_)
          ·skip
           refine goes_ Try.func73 (by kernel_rfl) rfl #[.pointer (some ⟨g, 0, none⟩), .int .i64 4] (by rfl) rfl rfl zba6 ?_
           with_reducible refine (spec_l1Once.calls g s0_0 t233 t234 4 t236 t237 t238 w0 _ ?side1 ?side2 A15.out).mono ?_
           (case side1 => exact zba2)
           (case side2 => exact zba1)
           rintro e w21 ⟨rfl, hi, hb, hk⟩
           have HS0_ := keep_cell hk (hHeld) zba8
           refine ⟨_, rfl, ?_⟩
           replace HO_3 := Aside0.mk (Kd.S_mono (Kd.S_keep (IsS94.apartS (show IsS94 w0 _ g s0_0 t233 t234 from zba2) (zba3 HO_3.out) (by decide)) hk (fun _ h => h.2)) (fun _ h => h.1))
           replace HO_4 := Aside0.mk (Kd.R_mono (Kd.R_keep (IsS94.apart (show IsS94 w0 _ g s0_0 t233 t234 from zba2) (zba5 HO_4.out) (by decide)) hk (fun _ h => h.2)) (fun _ h => h.1))
           replace HK := Aside0.mk (KeepBut.trans zba0 hk (.inl rfl))
           replace HB := Aside0.mk (hb)
           replace HI0 := Aside0.mk (hi)
           (try clear hb)
           (try clear hb2)
           (try clear hk)
           (try clear hi)
           refine hK.out _ _ (HS0_) (fun hHeld => ?_)
           clear hK K
           refine norm_ (a' := ?_) ?_ ?_
           rotate_left
           ·show Act.put _ (some 28) _ = _
            simp only [Act.put, sT, s0, sS, i64_w, i32_w]
            rfl
           refine qA 10 29 (tf 13 2047) ?_
           refine one_ (i := 11) (N := some 6) (tf 13 4095) rfl rfl (one_of HT_.out (by kernel_rfl)) (by decide) (fun K hK => ?_)
           refine box_step ?hg (N := 6) ?hd (cs := #[.string (⟨#[]⟩ : ByteArray), .slice none 0 0, .slice none 0 0, .string (⟨#[]⟩ : ByteArray), .bool false]) (t := 55) ?hr ?_; (case hd => rfl); (case hg => rfl); (case hr => first | (go_simp; done) | (go_simp; rfl))
           intro gb239 hg w22 hbox hb
           have HS0_ := (hb.cell (World.block_lt_of_cell? _ _ (hHeld))).trans (hHeld)
           replace HO_3 := Aside0.mk (Kd.S_below (Kd.S_elderB (zba3 HO_3.out) gb239 (Nat.le_of_eq hg.symm)) hb)
           replace HO_4 := Aside0.mk (Kd.R_below (zba5 HO_4.out) hb)
           replace HB := Aside0.mk (below_step zba1 hb)
           have BK239 := Aside0.mk (hbox)
           have GW239 := Aside0.mk ((by rw [hg]; exact (keep_size (w := w) (g := g) (row := none) zba0) : w.heap.size ≤ gb239))
           have GE239 := Aside0.mk ((Nat.le_trans HW0.out (by rw [hg]; exact (keep_size (w := w) (g := g) (row := none) zba0) : w.heap.size ≤ gb239) : w0.heap.size ≤ gb239))
           replace HK := Aside0.mk (KeepBut.trans zba0 (KeepBut.of_below hb g none) (.inl rfl))
           have NB0_239 := Aside0.mk ((by rw [hg]; exact Nat.ne_of_lt (IsS94.lt (show IsS94 w0 _ g s0_0 t237 t238 from zba2)) : g ≠ gb239))
           have NB239_0 := Aside0.mk ((by rw [hg]; exact Nat.ne_of_gt (IsS94.lt (show IsS94 w0 _ g s0_0 t237 t238 from zba2)) : gb239 ≠ g))
           replace HI0 := Aside0.mk (IsS94.below zba2 hb)
           clear hb hbox hg
           refine hK.out _ _ (HS0_) (fun hHeld => ?_)
           clear hK K
           refine norm_ (a' := ?_) ?_ ?_
           rotate_left
           ·show Act.put _ (some 6) _ = _
            simp only [Act.put, sT, s0, sS, i64_w, i32_w]
            rfl
           exact norm_ zba9 (hCont (gb239) _ ⟨hHeld, (zba3 HO_3.out), (zba5 HO_4.out), (qK BK239.out), GW239.out, GE239.out, NB0_239.out, NB239_0.out, zba10, zba11, zba12⟩)
          ·skip
           refine box_step ?hg (N := 6) ?hd (cs := #[.string (⟨#[]⟩ : ByteArray), .slice none 0 0, .slice none 0 0, .string (⟨#[]⟩ : ByteArray), .bool false]) (t := 55) ?hr ?_; (case hd => rfl); (case hg => rfl); (case hr => first | (go_simp; done) | (go_simp; rfl))
           intro gb239 hg w21 hbox hb
           have HS0_ := (hb.cell (World.block_lt_of_cell? _ _ (hHeld))).trans (hHeld)
           replace HO_3 := Aside0.mk (Kd.S_below (Kd.S_elderB (zba3 HO_3.out) gb239 (Nat.le_of_eq hg.symm)) hb)
           replace HO_4 := Aside0.mk (Kd.R_below (zba5 HO_4.out) hb)
           replace HB := Aside0.mk (below_step zba1 hb)
           have BK239 := Aside0.mk (hbox)
           have GW239 := Aside0.mk ((by rw [hg]; exact (keep_size (w := w) (g := g) (row := none) zba0) : w.heap.size ≤ gb239))
           have GE239 := Aside0.mk ((Nat.le_trans HW0.out (by rw [hg]; exact (keep_size (w := w) (g := g) (row := none) zba0) : w.heap.size ≤ gb239) : w0.heap.size ≤ gb239))
           replace HK := Aside0.mk (KeepBut.trans zba0 (KeepBut.of_below hb g none) (.inl rfl))
           have NB0_239 := Aside0.mk ((by rw [hg]; exact Nat.ne_of_lt (IsS94.lt (show IsS94 w0 _ g s0_0 t233 t234 from zba2)) : g ≠ gb239))
           have NB239_0 := Aside0.mk ((by rw [hg]; exact Nat.ne_of_gt (IsS94.lt (show IsS94 w0 _ g s0_0 t233 t234 from zba2)) : gb239 ≠ g))
           replace HI0 := Aside0.mk (IsS94.below zba2 hb)
           clear hb hbox hg
           refine hK.out _ _ (HS0_) (fun hHeld => ?_)
           clear hK K
           refine norm_ (a' := ?_) ?_ ?_
           rotate_left
           ·show Act.put _ (some 6) _ = _
            simp only [Act.put, sT, s0, sS, i64_w, i32_w]
            rfl
           refine one_ (i := 9) (N := some 28) (tf 13 3071) rfl rfl (one_of HT_.out (by kernel_rfl)) (by decide) (fun K hK => ?_)
           refine goes_ Try.func73 (by kernel_rfl) rfl #[.pointer (some ⟨g, 0, none⟩), .int .i64 4] (by rfl) rfl rfl zba6 ?_
           with_reducible refine (spec_l1Once.calls g s0_0 t233 t234 4 t236 t237 t238 w0 _ ?side1 ?side2 A15.out).mono ?_
           (case side1 => exact zba10)
           (case side2 => exact zba12)
           rintro e w22 ⟨rfl, hi, hb, hk⟩
           have HS0_ := keep_cell hk (hHeld) zba8
           refine ⟨_, rfl, ?_⟩
           replace HO_3 := Aside0.mk (Kd.S_mono (Kd.S_keep (IsS94.apartS (show IsS94 w0 _ g s0_0 t233 t234 from zba10) (zba3 HO_3.out) (by decide)) hk (fun _ h => h.2)) (fun _ h => h.1))
           replace HO_4 := Aside0.mk (Kd.R_mono (Kd.R_keep (IsS94.apart (show IsS94 w0 _ g s0_0 t233 t234 from zba10) (zba5 HO_4.out) (by decide)) hk (fun _ h => h.2)) (fun _ h => h.1))
           replace BK239 := Aside0.mk (KeepBut.blk hk (g' := gb239) (qK BK239.out) NB239_0.out (by simp))
           replace HK := Aside0.mk (KeepBut.trans zba11 hk (.inl rfl))
           replace HB := Aside0.mk (hb)
           replace HI0 := Aside0.mk (hi)
           (try clear hb)
           (try clear hb2)
           (try clear hk)
           (try clear hi)
           refine hK.out _ _ (HS0_) (fun hHeld => ?_)
           clear hK K
           refine norm_ (a' := ?_) ?_ ?_
           rotate_left
           ·show Act.put _ (some 28) _ = _
            simp only [Act.put, sT, s0, sS, i64_w, i32_w]
            rfl
           refine qA 10 29 (tf 13 4095) ?_
           exact norm_ zba9 (hCont (gb239) _ ⟨hHeld, (zba3 HO_3.out), (zba5 HO_4.out), (qK BK239.out), GW239.out, GE239.out, NB0_239.out, NB239_0.out, zba10, zba11, zba12⟩)
         ·skip
          refine box_step ?hg (N := 6) ?hd (cs := #[.string (⟨#[]⟩ : ByteArray), .slice none 0 0, .slice none 0 0, .string (⟨#[]⟩ : ByteArray), .bool false]) (t := 55) ?hr ?_; (case hd => rfl); (case hg => rfl); (case hr => first | (go_simp; done) | (go_simp; rfl))
          intro gb239 hg w20 hbox hb
          have HS0_ := (hb.cell (World.block_lt_of_cell? _ _ (hHeld))).trans (hHeld)
          replace HO_3 := Aside0.mk (Kd.S_below (Kd.S_elderB (zba3 HO_3.out) gb239 (Nat.le_of_eq hg.symm)) hb)
          replace HO_4 := Aside0.mk (Kd.R_below (zba5 HO_4.out) hb)
          replace HB := Aside0.mk (below_step zba1 hb)
          have BK239 := Aside0.mk (hbox)
          have GW239 := Aside0.mk ((by rw [hg]; exact (keep_size (w := w) (g := g) (row := none) zba0) : w.heap.size ≤ gb239))
          have GE239 := Aside0.mk ((Nat.le_trans HW0.out (by rw [hg]; exact (keep_size (w := w) (g := g) (row := none) zba0) : w.heap.size ≤ gb239) : w0.heap.size ≤ gb239))
          replace HK := Aside0.mk (KeepBut.trans zba0 (KeepBut.of_below hb g none) (.inl rfl))
          have NB0_239 := Aside0.mk ((by rw [hg]; exact Nat.ne_of_lt (IsS94.lt (show IsS94 w0 _ g s0_0 t233 t234 from zba2)) : g ≠ gb239))
          have NB239_0 := Aside0.mk ((by rw [hg]; exact Nat.ne_of_gt (IsS94.lt (show IsS94 w0 _ g s0_0 t233 t234 from zba2)) : gb239 ≠ g))
          replace HI0 := Aside0.mk (IsS94.below zba2 hb)
          clear hb hbox hg
          refine hK.out _ _ (HS0_) (fun hHeld => ?_)
          clear hK K
          refine norm_ (a' := ?_) ?_ ?_
          rotate_left
          ·show Act.put _ (some 6) _ = _
           simp only [Act.put, sT, s0, sS, i64_w, i32_w]
           rfl
          refine one_ (i := 6) (N := some 25) (tf 13 2431) rfl rfl (one_of HT_.out (by kernel_rfl)) (by decide) (fun K hK => ?_)
          refine goes_ Try.func82 (by kernel_rfl) rfl #[.int .i64 t232] (by rfl) rfl rfl zba6 ?_
          with_reducible refine (spec_l2Int.calls k1 t232 t235 _ A13.out).mono ?_
          rintro e w21 ⟨rfl, hb⟩
          have HS0_ := (hb.cell (World.block_lt_of_cell? _ _ (hHeld))).trans (hHeld)
          refine ⟨_, rfl, ?_⟩
          replace HO_3 := Aside0.mk (Kd.S_below (zba3 HO_3.out) hb)
          replace HO_4 := Aside0.mk (Kd.R_below (zba5 HO_4.out) hb)
          replace BK239 := Aside0.mk (blk_below (g := gb239) (qK BK239.out) hb)
          replace HK := Aside0.mk (KeepBut.trans zba11 (KeepBut.of_below hb g none) (.inl rfl))
          replace HB := Aside0.mk (below_step zba12 hb)
          replace HI0 := Aside0.mk (IsS94.below zba10 hb)
          (try clear hb)
          (try clear hb2)
          (try clear hk)
          (try clear hi)
          refine hK.out _ _ (HS0_) (fun hHeld => ?_)
          clear hK K
          refine norm_ (a' := ?_) ?_ ?_
          rotate_left
          ·show Act.put _ (some 25) _ = _
           simp only [Act.put, sT, s0, sS, i64_w, i32_w]
           rfl
          refine qA 7 26 (tf 13 2559) ?_
          refine one_ (i := 9) (N := some 28) (tf 13 3071) rfl rfl (one_of HT_.out (by kernel_rfl)) (by decide) (fun K hK => ?_)
          refine goes_ Try.func73 (by kernel_rfl) rfl #[.pointer (some ⟨g, 0, none⟩), .int .i64 4] (by rfl) rfl rfl zba6 ?_
          with_reducible refine (spec_l1Once.calls g s0_0 t233 t234 4 t236 t237 t238 w0 _ ?side1 ?side2 A15.out).mono ?_
          (case side1 => exact zba10)
          (case side2 => exact zba12)
          rintro e w22 ⟨rfl, hi, hb, hk⟩
          have HS0_ := keep_cell hk (hHeld) zba8
          refine ⟨_, rfl, ?_⟩
          replace HO_3 := Aside0.mk (Kd.S_mono (Kd.S_keep (IsS94.apartS (show IsS94 w0 _ g s0_0 t233 t234 from zba10) (zba3 HO_3.out) (by decide)) hk (fun _ h => h.2)) (fun _ h => h.1))
          replace HO_4 := Aside0.mk (Kd.R_mono (Kd.R_keep (IsS94.apart (show IsS94 w0 _ g s0_0 t233 t234 from zba10) (zba5 HO_4.out) (by decide)) hk (fun _ h => h.2)) (fun _ h => h.1))
          replace BK239 := Aside0.mk (KeepBut.blk hk (g' := gb239) (qK BK239.out) NB239_0.out (by simp))
          replace HK := Aside0.mk (KeepBut.trans zba11 hk (.inl rfl))
          replace HB := Aside0.mk (hb)
          replace HI0 := Aside0.mk (hi)
          (try clear hb)
          (try clear hb2)
          (try clear hk)
          (try clear hi)
          refine hK.out _ _ (HS0_) (fun hHeld => ?_)
          clear hK K
          refine norm_ (a' := ?_) ?_ ?_
          rotate_left
          ·show Act.put _ (some 28) _ = _
           simp only [Act.put, sT, s0, sS, i64_w, i32_w]
           rfl
          refine qA 10 29 (tf 13 4095) ?_
          exact norm_ zba9 (hCont (gb239) _ ⟨hHeld, (zba3 HO_3.out), (zba5 HO_4.out), (qK BK239.out), GW239.out, GE239.out, NB0_239.out, NB239_0.out, zba10, zba11, zba12⟩)
        ·skip
         refine box_step ?hg (N := 6) ?hd (cs := #[.string (⟨#[]⟩ : ByteArray), .slice none 0 0, .slice none 0 0, .string (⟨#[]⟩ : ByteArray), .bool false]) (t := 55) ?hr ?_; (case hd => rfl); (case hg => rfl); (case hr => first | (go_simp; done) | (go_simp; rfl))
         intro gb239 hg w19 hbox hb
         have HS0_ := (hb.cell (World.block_lt_of_cell? _ _ (hHeld))).trans (hHeld)
         replace HO_3 := Aside0.mk (Kd.S_below (Kd.S_elderB (zba3 HO_3.out) gb239 (Nat.le_of_eq hg.symm)) hb)
         replace HO_4 := Aside0.mk (Kd.R_below (zba5 HO_4.out) hb)
         replace HB := Aside0.mk (below_step zba1 hb)
         have BK239 := Aside0.mk (hbox)
         have GW239 := Aside0.mk ((by rw [hg]; exact (keep_size (w := w) (g := g) (row := none) zba0) : w.heap.size ≤ gb239))
         have GE239 := Aside0.mk ((Nat.le_trans HW0.out (by rw [hg]; exact (keep_size (w := w) (g := g) (row := none) zba0) : w.heap.size ≤ gb239) : w0.heap.size ≤ gb239))
         replace HK := Aside0.mk (KeepBut.trans zba0 (KeepBut.of_below hb g none) (.inl rfl))
         have NB0_239 := Aside0.mk ((by rw [hg]; exact Nat.ne_of_lt (IsS94.lt (show IsS94 w0 _ g s0_0 t229 t230 from zba2)) : g ≠ gb239))
         have NB239_0 := Aside0.mk ((by rw [hg]; exact Nat.ne_of_gt (IsS94.lt (show IsS94 w0 _ g s0_0 t229 t230 from zba2)) : gb239 ≠ g))
         replace HI0 := Aside0.mk (IsS94.below zba2 hb)
         clear hb hbox hg
         refine hK.out _ _ (HS0_) (fun hHeld => ?_)
         clear hK K
         refine norm_ (a' := ?_) ?_ ?_
         rotate_left
         ·show Act.put _ (some 6) _ = _
          simp only [Act.put, sT, s0, sS, i64_w, i32_w]
          rfl
         refine one_ (i := 5) (N := some 24) (tf 13 2367) rfl rfl (one_of HT_.out (by kernel_rfl)) (by decide) (fun K hK => ?_)
         refine goes_ Try.func74 (by kernel_rfl) rfl #[.pointer (some ⟨g, 0, none⟩), .int .i64 2] (by rfl) rfl rfl zba6 ?_
         with_reducible refine (spec_l1Below.calls g s0_0 t229 t230 2 t232 t233 t234 w0 _ ?side1 ?side2 A12.out).mono ?_
         (case side1 => exact zba10)
         (case side2 => exact zba12)
         rintro e w20 ⟨rfl, hi, hb, hk⟩
         have HS0_ := keep_cell hk (hHeld) zba8
         refine ⟨_, rfl, ?_⟩
         replace HO_3 := Aside0.mk (Kd.S_mono (Kd.S_keep (IsS94.apartS (show IsS94 w0 _ g s0_0 t229 t230 from zba10) (zba3 HO_3.out) (by decide)) hk (fun _ h => h.2)) (fun _ h => h.1))
         replace HO_4 := Aside0.mk (Kd.R_mono (Kd.R_keep (IsS94.apart (show IsS94 w0 _ g s0_0 t229 t230 from zba10) (zba5 HO_4.out) (by decide)) hk (fun _ h => h.2)) (fun _ h => h.1))
         replace BK239 := Aside0.mk (KeepBut.blk hk (g' := gb239) (qK BK239.out) NB239_0.out (by simp))
         replace HK := Aside0.mk (KeepBut.trans zba11 hk (.inl rfl))
         replace HB := Aside0.mk (hb)
         replace HI0 := Aside0.mk (hi)
         (try clear hb)
         (try clear hb2)
         (try clear hk)
         (try clear hi)
         refine hK.out _ _ (HS0_) (fun hHeld => ?_)
         clear hK K
         refine norm_ (a' := ?_) ?_ ?_
         rotate_left
         ·show Act.put _ (some 24) _ = _
          simp only [Act.put, sT, s0, sS, i64_w, i32_w]
          rfl
         refine one_ (i := 6) (N := some 25) (tf 13 2431) rfl rfl (one_of HT_.out (by kernel_rfl)) (by decide) (fun K hK => ?_)
         refine goes_ Try.func82 (by kernel_rfl) rfl #[.int .i64 t232] (by rfl) rfl rfl zba6 ?_
         with_reducible refine (spec_l2Int.calls k1 t232 t235 _ A13.out).mono ?_
         rintro e w21 ⟨rfl, hb⟩
         have HS0_ := (hb.cell (World.block_lt_of_cell? _ _ (hHeld))).trans (hHeld)
         refine ⟨_, rfl, ?_⟩
         replace HO_3 := Aside0.mk (Kd.S_below (zba3 HO_3.out) hb)
         replace HO_4 := Aside0.mk (Kd.R_below (zba5 HO_4.out) hb)
         replace BK239 := Aside0.mk (blk_below (g := gb239) (qK BK239.out) hb)
         replace HK := Aside0.mk (KeepBut.trans zba11 (KeepBut.of_below hb g none) (.inl rfl))
         replace HB := Aside0.mk (below_step zba12 hb)
         replace HI0 := Aside0.mk (IsS94.below zba10 hb)
         (try clear hb)
         (try clear hb2)
         (try clear hk)
         (try clear hi)
         refine hK.out _ _ (HS0_) (fun hHeld => ?_)
         clear hK K
         refine norm_ (a' := ?_) ?_ ?_
         rotate_left
         ·show Act.put _ (some 25) _ = _
          simp only [Act.put, sT, s0, sS, i64_w, i32_w]
          rfl
         refine qA 7 26 (tf 13 2559) ?_
         refine one_ (i := 9) (N := some 28) (tf 13 3071) rfl rfl (one_of HT_.out (by kernel_rfl)) (by decide) (fun K hK => ?_)
         refine goes_ Try.func73 (by kernel_rfl) rfl #[.pointer (some ⟨g, 0, none⟩), .int .i64 4] (by rfl) rfl rfl zba6 ?_
         with_reducible refine (spec_l1Once.calls g s0_0 t233 t234 4 t236 t237 t238 w0 _ ?side1 ?side2 A15.out).mono ?_
         (case side1 => exact zba10)
         (case side2 => exact zba12)
         rintro e w22 ⟨rfl, hi, hb, hk⟩
         have HS0_ := keep_cell hk (hHeld) zba8
         refine ⟨_, rfl, ?_⟩
         replace HO_3 := Aside0.mk (Kd.S_mono (Kd.S_keep (IsS94.apartS (show IsS94 w0 _ g s0_0 t233 t234 from zba10) (zba3 HO_3.out) (by decide)) hk (fun _ h => h.2)) (fun _ h => h.1))
         replace HO_4 := Aside0.mk (Kd.R_mono (Kd.R_keep (IsS94.apart (show IsS94 w0 _ g s0_0 t233 t234 from zba10) (zba5 HO_4.out) (by decide)) hk (fun _ h => h.2)) (fun _ h => h.1))
         replace BK239 := Aside0.mk (KeepBut.blk hk (g' := gb239) (qK BK239.out) NB239_0.out (by simp))
         replace HK := Aside0.mk (KeepBut.trans zba11 hk (.inl rfl))
         replace HB := Aside0.mk (hb)
         replace HI0 := Aside0.mk (hi)
         (try clear hb)
         (try clear hb2)
         (try clear hk)
         (try clear hi)
         refine hK.out _ _ (HS0_) (fun hHeld => ?_)
         clear hK K
         refine norm_ (a' := ?_) ?_ ?_
         rotate_left
         ·show Act.put _ (some 28) _ = _
          simp only [Act.put, sT, s0, sS, i64_w, i32_w]
          rfl
         refine qA 10 29 (tf 13 4095) ?_
         exact norm_ zba9 (hCont (gb239) _ ⟨hHeld, (zba3 HO_3.out), (zba5 HO_4.out), (qK BK239.out), GW239.out, GE239.out, NB0_239.out, NB239_0.out, zba10, zba11, zba12⟩)
       rintro gb239 w23 ⟨hS_, h0_, h1_, h2_, h3_, h4_, h5_, h6_, h7_, h8_, h9_⟩
       have n0_ : Aside0 (Kd.S k55 55 w23 w.heap.size (fun k_ => some k_ ≠ (.slice (some ad231) y225.length co16 : Value).ownBlock ∧ k_ ≠ gb239) u3 x3_1) := ⟨h0_⟩
       have n1_ : Aside0 (Kd.R Kd.string 9 w23 w.heap.size (fun _ => True) (.slice (some ad231) y225.length co16) y225) := ⟨h1_⟩
       have n2_ : Aside0 (w23.heap[gb239]? = some (.cells #[.string (⟨#[]⟩ : ByteArray), .slice none 0 0, .slice none 0 0, .string (⟨#[]⟩ : ByteArray), .bool false] 55 (0, 0))) := ⟨h2_⟩
       have n3_ : Aside0 (w.heap.size ≤ gb239) := ⟨h3_⟩
       have n4_ : Aside0 (w0.heap.size ≤ gb239) := ⟨h4_⟩
       have n5_ : Aside0 (g ≠ gb239) := ⟨h5_⟩
       have n6_ : Aside0 (gb239 ≠ g) := ⟨h6_⟩
       have n7_ : Aside0 (IsS94 w0 w23 g s0_0 t237 t238) := ⟨h7_⟩
       have n8_ : Aside0 (KeepBut w w23 g none) := ⟨h8_⟩
       have n9_ : Aside0 (Below w0.heap.size w0 w23) := ⟨h9_⟩
       clear HO_3
       clear HO_4
       clear HI0
       clear HK
       clear HB
       clear h0_ h1_ h2_ h3_ h4_ h5_ h6_ h7_ h8_ h9_
       have HO_3 := n0_
       have HO_4 := n1_
       have BK239 := n2_
       have GW239 := n3_
       have GE239 := n4_
       have NB0_239 := n5_
       have NB239_0 := n6_
       have HI0 := n7_
       have HK := n8_
       have HB := n9_
       clear n0_ n1_ n2_ n3_ n4_ n5_ n6_ n7_ n8_ n9_
       have hHeld : w23.cell? (ad231.add (x5_1).toNat) = some (.string (rdOf ByteArray.empty y225 x5_1)) := hS_
       refine norm_ (a' := ?_) ?_ ?_
       (rotate_left; · simp only [putAll, Act.put, List.setIfInBounds_toArray, List.set_cons_zero, List.set_cons_succ]; rfl)
       refine one_ (i := 12) (N := none) (tf 13 8191) rfl rfl (one_of HT_.out (by kernel_rfl)) (by decide) (fun K hK => ?_)
       have hs24 : w23.cell? ⟨gb239, 0, none⟩ = some (.string (⟨#[]⟩ : ByteArray)) := (blk_cell BK239.out 0).trans rfl
       have hfs24 := blk_frozen BK239.out 0
       have hs25 : w23.cell? ⟨gb239, 1, none⟩ = some (.slice none 0 0) := (blk_cell BK239.out 1).trans rfl
       have hfs25 := blk_frozen BK239.out 1
       have hs26 : w23.cell? ⟨gb239, 2, none⟩ = some (.slice none 0 0) := (blk_cell BK239.out 2).trans rfl
       have hfs26 := blk_frozen BK239.out 2
       have hs27 : w23.cell? ⟨gb239, 3, none⟩ = some (.string (⟨#[]⟩ : ByteArray)) := (blk_cell BK239.out 3).trans rfl
       have hfs27 := blk_frozen BK239.out 3
       have hs28 : w23.cell? ⟨gb239, 4, none⟩ = some (.bool false) := (blk_cell BK239.out 4).trans rfl
       have hfs28 := blk_frozen BK239.out 4
       refine skip_ (w1 := ?_) (by rfl) rfl ?_ ?_
       rotate_left
       ·go_simp
        rfl
       refine hK.out _ _ (((cell_far (p := ⟨gb239, _, none⟩) zba13 _).trans (((cell_far (p := ⟨gb239, _, none⟩) zba13 _).trans (((cell_far (p := ⟨gb239, _, none⟩) zba13 _).trans (((cell_far (p := ⟨gb239, _, none⟩) zba13 _).trans (((cell_far (p := ⟨gb239, _, none⟩) zba13 _).trans (hHeld))))))))))) (fun hHeld => ?_)
       clear hK K
       refine done_ (done_of HT_.out (by kernel_rfl)) ?_
       try go_wp2
       go_loopg [7] k1 (fun kq v7 w' => ∃ (x7_2 : Int) (x1001_2 : Int) (x1002_2 : Int) (x240001_2 : List ByteArray) (x240002_2 : List ByteArray) (u240001 : Value) (u240002 : Value), v7 = .int .i64 x7_2 ∧ Aside0 (spec_l18Draw.l1 kq x3_1 y225 x5_1 x7_2 s0_0 x1001_2 x1002_2 (rdOf ByteArray.empty y225 x5_1) x240001_2 x240002_2 ((⟨#[114, 117, 110, 32]⟩ : ByteArray) ++ t235) t236 = some (r1, r2, r3)) ∧ Aside0 (kq ≤ k1) ∧ Aside0 (Kd.S k55 55 w' w.heap.size (fun k_ => some k_ ≠ ((.slice (some ad231) y225.length co16) : Value).ownBlock ∧ some k_ ≠ (u240001 : Value).ownBlock ∧ some k_ ≠ (u240002 : Value).ownBlock ∧ k_ ≠ gb239) u3 x3_1) ∧ Aside0 (Kd.R Kd.string 9 w' w.heap.size (fun k_ => some k_ ≠ (u240001 : Value).ownBlock ∧ some k_ ≠ (u240002 : Value).ownBlock) (.slice (some ad231) y225.length co16) y225) ∧ Aside0 (Kd.R Kd.string 9 w' w.heap.size (fun k_ => some k_ ≠ ((.slice (some ad231) y225.length co16) : Value).ownBlock ∧ some k_ ≠ (u240002 : Value).ownBlock) u240001 x240001_2) ∧ Aside0 (Kd.R Kd.string 9 w' w.heap.size (fun k_ => some k_ ≠ ((.slice (some ad231) y225.length co16) : Value).ownBlock ∧ some k_ ≠ (u240001 : Value).ownBlock) u240002 x240002_2) ∧ Aside0 (w'.heap[gb239]? = some (.cells #[.string (rdOf ByteArray.empty y225 x5_1), u240001, u240002, .string ((⟨#[114, 117, 110, 32]⟩ : ByteArray) ++ t235), .bool t236] 55 (0, 0))) ∧ Aside0 (IsS94 w0 w' g s0_0 x1001_2 x1002_2) ∧ Aside0 (KeepBut w w' g none) ∧ Aside0 (Below w0.heap.size w0 w'))
       case atStart => exact ⟨(0), (t237), (t238), (([] : List ByteArray)), (([] : List ByteArray)), (.slice none 0 0), (.slice none 0 0), zba4, H', ⟨Nat.le_refl _⟩, ⟨by (with_reducible repeat (first | apply Kd.S_alloc | apply Kd.S_drewN | apply Kd.S_drew)); exact Kd.S_mono (Kd.S_far (p := ⟨gb239, 4, none⟩) (Kd.S_far (p := ⟨gb239, 3, none⟩) (Kd.S_far (p := ⟨gb239, 2, none⟩) (Kd.S_far (p := ⟨gb239, 1, none⟩) (Kd.S_far (p := ⟨gb239, 0, none⟩) (Kd.S_mono HO_3.out (fun k_ hk => (⟨hk, hk.2⟩ : _ ∧ k_ ≠ gb239))) (fun _ hk => hk.2) (.string (rdOf ByteArray.empty y225 x5_1))) (fun _ hk => hk.2) (.slice none 0 0)) (fun _ hk => hk.2) (.slice none 0 0)) (fun _ hk => hk.2) (.string ((⟨#[114, 117, 110, 32]⟩ : ByteArray) ++ t235))) (fun _ hk => hk.2) (.bool t236)) (fun _ hk => ⟨hk.1.1, ⟨(by simp [Value.ownBlock]), ⟨(by simp [Value.ownBlock]), hk.1.2⟩⟩⟩)⟩, ⟨by (with_reducible repeat (first | apply Kd.R_alloc | apply Kd.R_drewN | apply Kd.R_drew)); exact Kd.R_mono (Kd.R_far (p := ⟨gb239, 4, none⟩) (Kd.R_far (p := ⟨gb239, 3, none⟩) (Kd.R_far (p := ⟨gb239, 2, none⟩) (Kd.R_far (p := ⟨gb239, 1, none⟩) (Kd.R_far (p := ⟨gb239, 0, none⟩) (Kd.R_types HO_4.out BK239.out (by decide)) (fun _ hk => hk.2) (.string (rdOf ByteArray.empty y225 x5_1))) (fun _ hk => hk.2) (.slice none 0 0)) (fun _ hk => hk.2) (.slice none 0 0)) (fun _ hk => hk.2) (.string ((⟨#[114, 117, 110, 32]⟩ : ByteArray) ++ t235))) (fun _ hk => hk.2) (.bool t236)) (fun _ hk => ⟨(by simp [Value.ownBlock]), (by simp [Value.ownBlock])⟩)⟩, ⟨zba14⟩, ⟨zba14⟩, ⟨by (with_reducible repeat (first | refine blk_drewN ?_ _ | refine blk_drew ?_ | refine blk_alloc ?_ _)); refine blk_put (cs := #[.string (rdOf ByteArray.empty y225 x5_1), .slice none 0 0, .slice none 0 0, .string ((⟨#[114, 117, 110, 32]⟩ : ByteArray) ++ t235), .bool false]) ?_ 4 _ rfl; (with_reducible repeat (first | refine blk_drewN ?_ _ | refine blk_drew ?_ | refine blk_alloc ?_ _)); refine blk_put (cs := #[.string (rdOf ByteArray.empty y225 x5_1), .slice none 0 0, .slice none 0 0, .string (⟨#[]⟩ : ByteArray), .bool false]) ?_ 3 _ rfl; (with_reducible repeat (first | refine blk_drewN ?_ _ | refine blk_drew ?_ | refine blk_alloc ?_ _)); refine blk_put (cs := #[.string (rdOf ByteArray.empty y225 x5_1), .slice none 0 0, .slice none 0 0, .string (⟨#[]⟩ : ByteArray), .bool false]) ?_ 2 _ rfl; (with_reducible repeat (first | refine blk_drewN ?_ _ | refine blk_drew ?_ | refine blk_alloc ?_ _)); refine blk_put (cs := #[.string (rdOf ByteArray.empty y225 x5_1), .slice none 0 0, .slice none 0 0, .string (⟨#[]⟩ : ByteArray), .bool false]) ?_ 1 _ rfl; (with_reducible repeat (first | refine blk_drewN ?_ _ | refine blk_drew ?_ | refine blk_alloc ?_ _)); refine blk_put (cs := #[.string (⟨#[]⟩ : ByteArray), .slice none 0 0, .slice none 0 0, .string (⟨#[]⟩ : ByteArray), .bool false]) ?_ 0 _ rfl; (with_reducible repeat (first | refine blk_drewN ?_ _ | refine blk_drew ?_ | refine blk_alloc ?_ _)); exact BK239.out⟩, ⟨zba10⟩, ⟨zba11⟩, ⟨zba12⟩⟩
       case round =>
        clear H'
        try clear p2
        try clear c7
        try clear c8
        obtain ⟨x7_2, x1001_2, x1002_2, x240001_2, x240002_2, u240001, u240002, rfl, HA, HK2, HO_3, HO_4, HO_240001, HO_240002, BK239, HI0, HK, HB⟩ := hrel
        cases gk with
        | zero => exact absurd HA.out (by simp [spec_l18Draw.l1])
        | succ k2 =>
         have H := HA.out
         clear HA
         simp only [spec_l18Draw.l1] at H
         by_cases c29 : x7_2 < (y225.length : Int)
         ·rw [if_pos c29] at H
          have c29b0 : decide (x7_2 < (y225.length : Int)) = true := decide_eq_true c29
          clear c29
          have HC30 := Aside0.mk H
          clear H
          go_upto_region 11 with (fail)
          go_cut [46] (fun v46 wc => ∃ (kq : Nat) (x46_29 : Bool) (x1001_29 : Int) (x1002_29 : Int), v46 = .bool x46_29 ∧ Aside0 (spec_l18Draw.j2 kq x3_1 y225 x5_1 x7_2 x46_29 s0_0 x1001_29 x1002_29 (rdOf ByteArray.empty y225 x5_1) x240001_2 x240002_2 ((⟨#[114, 117, 110, 32]⟩ : ByteArray) ++ t235) t236 = some (r1, r2, r3)) ∧ Aside0 (kq ≤ k2) ∧ Aside0 (Kd.S k55 55 wc w.heap.size (fun k_ => some k_ ≠ ((.slice (some ad231) y225.length co16) : Value).ownBlock ∧ some k_ ≠ (u240001 : Value).ownBlock ∧ some k_ ≠ (u240002 : Value).ownBlock ∧ k_ ≠ gb239) u3 x3_1) ∧ Aside0 (Kd.R Kd.string 9 wc w.heap.size (fun k_ => some k_ ≠ (u240001 : Value).ownBlock ∧ some k_ ≠ (u240002 : Value).ownBlock) (.slice (some ad231) y225.length co16) y225) ∧ Aside0 (Kd.R Kd.string 9 wc w.heap.size (fun k_ => some k_ ≠ ((.slice (some ad231) y225.length co16) : Value).ownBlock ∧ some k_ ≠ (u240002 : Value).ownBlock) u240001 x240001_2) ∧ Aside0 (Kd.R Kd.string 9 wc w.heap.size (fun k_ => some k_ ≠ ((.slice (some ad231) y225.length co16) : Value).ownBlock ∧ some k_ ≠ (u240001 : Value).ownBlock) u240002 x240002_2) ∧ Aside0 (wc.heap[gb239]? = some (.cells #[.string (rdOf ByteArray.empty y225 x5_1), u240001, u240002, .string ((⟨#[114, 117, 110, 32]⟩ : ByteArray) ++ t235), .bool t236] 55 (0, 0))) ∧ Aside0 (IsS94 w0 wc g s0_0 x1001_29 x1002_29) ∧ Aside0 (KeepBut w wc g none) ∧ Aside0 (Below w0.heap.size w0 wc))
          case first =>
           have H := HC30.out
           clear HC30
           replace H := Option.bind_eq_some_iff.mp H
           obtain ⟨⟨t243, t244, t245⟩, A310, H⟩ := H
           replace H : (if t243 = true then (if x7_2 < x5_1 then (spec_l18Draw.j2 k2 x3_1 y225 x5_1 x7_2 true s0_0 t244 t245 (rdOf ByteArray.empty y225 x5_1) x240001_2 x240002_2 ((⟨#[114, 117, 110, 32]⟩ : ByteArray) ++ t235) t236) else ((spec_l1Once.f s0_0 t244 t245 5).bind fun bt246 => (spec_l18Draw.j2 k2 x3_1 y225 x5_1 x7_2 bt246.1 s0_0 bt246.2.1 bt246.2.2 (rdOf ByteArray.empty y225 x5_1) x240001_2 x240002_2 ((⟨#[114, 117, 110, 32]⟩ : ByteArray) ++ t235) t236))) else (spec_l18Draw.j2 k2 x3_1 y225 x5_1 x7_2 false s0_0 t244 t245 (rdOf ByteArray.empty y225 x5_1) x240001_2 x240002_2 ((⟨#[114, 117, 110, 32]⟩ : ByteArray) ++ t235) t236)) = some (r1, r2, r3) := H
           have A31 := Aside0.mk A310
           clear A310
           by_cases c32 : t243 = true
           ·subst c32
            have H1 : (if x7_2 < x5_1 then (spec_l18Draw.j2 k2 x3_1 y225 x5_1 x7_2 true s0_0 t244 t245 (rdOf ByteArray.empty y225 x5_1) x240001_2 x240002_2 ((⟨#[114, 117, 110, 32]⟩ : ByteArray) ++ t235) t236) else ((spec_l1Once.f s0_0 t244 t245 5).bind fun bt246 => (spec_l18Draw.j2 k2 x3_1 y225 x5_1 x7_2 bt246.1 s0_0 bt246.2.1 bt246.2.2 (rdOf ByteArray.empty y225 x5_1) x240001_2 x240002_2 ((⟨#[114, 117, 110, 32]⟩ : ByteArray) ++ t235) t236))) = some (r1, r2, r3) := by rw [if_pos rfl] at H; exact H
            clear H
            have H := H1
            clear H1
            by_cases c33 : x7_2 < x5_1
            ·rw [if_pos c33] at H
             have c33b0 : decide (x7_2 < x5_1) = true := decide_eq_true c33
             clear c33
             (first | rw [c33b0] | (simp only [i64_w, i32_w]; rw [c33b0]) | skip)
             have H' := Aside0.mk H
             clear H
             go_wp2_with (first | ((with_reducible refine gate_callee (f := 73) rfl ?_); refine goesL_ (some 37) rfl rfl Try.func73 (by kernel_rfl) rfl #[.pointer (some ⟨g, 0, none⟩), .int .i64 5] rfl zba6 ?_; (with_reducible refine (spec_l1Once.calls g s0_0 x1001_2 x1002_2 5 true t244 t245 w0 _ ?side1 ?side2 A31.out).mono ?_); (case side1 => exact zba10); (case side2 => exact zba12); rintro e w34 ⟨rfl, hi, hb, hk⟩; refine ⟨_, rfl, ?_⟩; replace HO_3 := Aside0.mk (Kd.S_mono (Kd.S_keep (IsS94.apartS (show IsS94 w0 _ g s0_0 x1001_2 x1002_2 from zba10) (zba3 HO_3.out) (by decide)) hk (fun _ h => h.2)) (fun _ h => h.1)); replace HO_4 := Aside0.mk (Kd.R_mono (Kd.R_keep (IsS94.apart (show IsS94 w0 _ g s0_0 x1001_2 x1002_2 from zba10) (zba5 HO_4.out) (by decide)) hk (fun _ h => h.2)) (fun _ h => h.1)); replace HO_240001 := Aside0.mk (Kd.R_mono (Kd.R_keep (IsS94.apart (show IsS94 w0 _ g s0_0 x1001_2 x1002_2 from zba10) (zba5 HO_240001.out) (by decide)) hk (fun _ h => h.2)) (fun _ h => h.1)); replace HO_240002 := Aside0.mk (Kd.R_mono (Kd.R_keep (IsS94.apart (show IsS94 w0 _ g s0_0 x1001_2 x1002_2 from zba10) (zba5 HO_240002.out) (by decide)) hk (fun _ h => h.2)) (fun _ h => h.1)); replace BK239 := Aside0.mk (KeepBut.blk hk (g' := gb239) (qK BK239.out) NB239_0.out (by simp)); replace HK := Aside0.mk (KeepBut.trans zba11 hk (.inl rfl)); replace HB := Aside0.mk (hb); replace HI0 := Aside0.mk (hi); (try clear hb); (try clear hb2); (try clear hk); (try clear hi)))
             go_meet
             case rel => exact ⟨_, (true), (t244), (t245), zba4, H', ⟨zba15⟩, ⟨zba3 HO_3.out⟩, ⟨zba5 HO_4.out⟩, ⟨zba5 HO_240001.out⟩, ⟨zba5 HO_240002.out⟩, ⟨zba16⟩, ⟨zba10⟩, ⟨zba11⟩, ⟨zba12⟩⟩
            ·rw [if_neg c33] at H
             have c33b0 : decide (x7_2 < x5_1) = false := decide_eq_false c33
             clear c33
             (first | rw [c33b0] | (simp only [i64_w, i32_w]; rw [c33b0]) | skip)
             replace H := Option.bind_eq_some_iff.mp H
             obtain ⟨⟨t246, t247, t248⟩, A350, H⟩ := H
             replace H : (spec_l18Draw.j2 k2 x3_1 y225 x5_1 x7_2 t246 s0_0 t247 t248 (rdOf ByteArray.empty y225 x5_1) x240001_2 x240002_2 ((⟨#[114, 117, 110, 32]⟩ : ByteArray) ++ t235) t236) = some (r1, r2, r3) := H
             have A35 := Aside0.mk A350
             clear A350
             have H' := Aside0.mk H
             clear H
             go_wp2_with (first | ((with_reducible refine gate_callee (f := 73) rfl ?_); refine goesL_ (some 37) rfl rfl Try.func73 (by kernel_rfl) rfl #[.pointer (some ⟨g, 0, none⟩), .int .i64 5] rfl zba6 ?_; (with_reducible refine (spec_l1Once.calls g s0_0 x1001_2 x1002_2 5 true t244 t245 w0 _ ?side1 ?side2 A31.out).mono ?_); (case side1 => exact zba10); (case side2 => exact zba12); rintro e w36 ⟨rfl, hi, hb, hk⟩; refine ⟨_, rfl, ?_⟩; replace HO_3 := Aside0.mk (Kd.S_mono (Kd.S_keep (IsS94.apartS (show IsS94 w0 _ g s0_0 x1001_2 x1002_2 from zba10) (zba3 HO_3.out) (by decide)) hk (fun _ h => h.2)) (fun _ h => h.1)); replace HO_4 := Aside0.mk (Kd.R_mono (Kd.R_keep (IsS94.apart (show IsS94 w0 _ g s0_0 x1001_2 x1002_2 from zba10) (zba5 HO_4.out) (by decide)) hk (fun _ h => h.2)) (fun _ h => h.1)); replace HO_240001 := Aside0.mk (Kd.R_mono (Kd.R_keep (IsS94.apart (show IsS94 w0 _ g s0_0 x1001_2 x1002_2 from zba10) (zba5 HO_240001.out) (by decide)) hk (fun _ h => h.2)) (fun _ h => h.1)); replace HO_240002 := Aside0.mk (Kd.R_mono (Kd.R_keep (IsS94.apart (show IsS94 w0 _ g s0_0 x1001_2 x1002_2 from zba10) (zba5 HO_240002.out) (by decide)) hk (fun _ h => h.2)) (fun _ h => h.1)); replace BK239 := Aside0.mk (KeepBut.blk hk (g' := gb239) (qK BK239.out) NB239_0.out (by simp)); replace HK := Aside0.mk (KeepBut.trans zba11 hk (.inl rfl)); replace HB := Aside0.mk (hb); replace HI0 := Aside0.mk (hi); (try clear hb); (try clear hb2); (try clear hk); (try clear hi)) | (go_at_call 73; (with_reducible refine (spec_l1Once.calls g s0_0 t244 t245 5 t246 t247 t248 w0 _ ?side1 ?side2 A35.out).mono ?_); (case side1 => exact zba10); (case side2 => exact zba12); rintro e w37 ⟨rfl, hi, hb, hk⟩; replace HO_3 := Aside0.mk (Kd.S_mono (Kd.S_keep (IsS94.apartS (show IsS94 w0 _ g s0_0 t244 t245 from zba10) (zba3 HO_3.out) (by decide)) hk (fun _ h => h.2)) (fun _ h => h.1)); replace HO_4 := Aside0.mk (Kd.R_mono (Kd.R_keep (IsS94.apart (show IsS94 w0 _ g s0_0 t244 t245 from zba10) (zba5 HO_4.out) (by decide)) hk (fun _ h => h.2)) (fun _ h => h.1)); replace HO_240001 := Aside0.mk (Kd.R_mono (Kd.R_keep (IsS94.apart (show IsS94 w0 _ g s0_0 t244 t245 from zba10) (zba5 HO_240001.out) (by decide)) hk (fun _ h => h.2)) (fun _ h => h.1)); replace HO_240002 := Aside0.mk (Kd.R_mono (Kd.R_keep (IsS94.apart (show IsS94 w0 _ g s0_0 t244 t245 from zba10) (zba5 HO_240002.out) (by decide)) hk (fun _ h => h.2)) (fun _ h => h.1)); replace BK239 := Aside0.mk (KeepBut.blk hk (g' := gb239) (qK BK239.out) NB239_0.out (by simp)); replace HK := Aside0.mk (KeepBut.trans zba11 hk (.inl rfl)); replace HB := Aside0.mk (hb); replace HI0 := Aside0.mk (hi); (try clear hb); (try clear hb2); (try clear hk); (try clear hi)))
             go_meet
             case rel => exact ⟨_, (t246), (t247), (t248), zba4, H', ⟨zba15⟩, ⟨zba3 HO_3.out⟩, ⟨zba5 HO_4.out⟩, ⟨zba5 HO_240001.out⟩, ⟨zba5 HO_240002.out⟩, ⟨zba16⟩, ⟨zba10⟩, ⟨zba11⟩, ⟨zba12⟩⟩
           ·replace c32 := Bool.eq_false_iff.mpr c32
            subst c32
            have H1 : (spec_l18Draw.j2 k2 x3_1 y225 x5_1 x7_2 false s0_0 t244 t245 (rdOf ByteArray.empty y225 x5_1) x240001_2 x240002_2 ((⟨#[114, 117, 110, 32]⟩ : ByteArray) ++ t235) t236) = some (r1, r2, r3) := by rw [if_neg (show ¬ (false = true) by decide)] at H; exact H
            clear H
            have H := H1
            clear H1
            have H' := Aside0.mk H
            clear H
            go_wp2_with (first | ((with_reducible refine gate_callee (f := 73) rfl ?_); refine goesL_ (some 37) rfl rfl Try.func73 (by kernel_rfl) rfl #[.pointer (some ⟨g, 0, none⟩), .int .i64 5] rfl zba6 ?_; (with_reducible refine (spec_l1Once.calls g s0_0 x1001_2 x1002_2 5 false t244 t245 w0 _ ?side1 ?side2 A31.out).mono ?_); (case side1 => exact zba10); (case side2 => exact zba12); rintro e w38 ⟨rfl, hi, hb, hk⟩; refine ⟨_, rfl, ?_⟩; replace HO_3 := Aside0.mk (Kd.S_mono (Kd.S_keep (IsS94.apartS (show IsS94 w0 _ g s0_0 x1001_2 x1002_2 from zba10) (zba3 HO_3.out) (by decide)) hk (fun _ h => h.2)) (fun _ h => h.1)); replace HO_4 := Aside0.mk (Kd.R_mono (Kd.R_keep (IsS94.apart (show IsS94 w0 _ g s0_0 x1001_2 x1002_2 from zba10) (zba5 HO_4.out) (by decide)) hk (fun _ h => h.2)) (fun _ h => h.1)); replace HO_240001 := Aside0.mk (Kd.R_mono (Kd.R_keep (IsS94.apart (show IsS94 w0 _ g s0_0 x1001_2 x1002_2 from zba10) (zba5 HO_240001.out) (by decide)) hk (fun _ h => h.2)) (fun _ h => h.1)); replace HO_240002 := Aside0.mk (Kd.R_mono (Kd.R_keep (IsS94.apart (show IsS94 w0 _ g s0_0 x1001_2 x1002_2 from zba10) (zba5 HO_240002.out) (by decide)) hk (fun _ h => h.2)) (fun _ h => h.1)); replace BK239 := Aside0.mk (KeepBut.blk hk (g' := gb239) (qK BK239.out) NB239_0.out (by simp)); replace HK := Aside0.mk (KeepBut.trans zba11 hk (.inl rfl)); replace HB := Aside0.mk (hb); replace HI0 := Aside0.mk (hi); (try clear hb); (try clear hb2); (try clear hk); (try clear hi)))
            go_meet
            case rel => exact ⟨_, (false), (t244), (t245), zba4, H', ⟨zba15⟩, ⟨zba3 HO_3.out⟩, ⟨zba5 HO_4.out⟩, ⟨zba5 HO_240001.out⟩, ⟨zba5 HO_240002.out⟩, ⟨zba16⟩, ⟨zba10⟩, ⟨zba11⟩, ⟨zba12⟩⟩
          case rest =>
           clear HC30
           try clear c2
           try clear p2
           try clear c3
           try clear c7
           try clear c8
           try clear c29
           try clear c29b0
           try clear c32
           try clear c33
           try clear c33b0
           try clear p2
           obtain ⟨kq, x46_29, x1001_29, x1002_29, rfl, HA, HJ29, HO_3, HO_4, HO_240001, HO_240002, BK239, HI0, HK, HB⟩ := hcut
           cases kq with
           | zero => exact absurd HA.out (by simp [spec_l18Draw.j2])
           | succ kj29 =>
            have H := HA.out
            clear HA
            simp only [spec_l18Draw.j2] at H
            have HC39 := Aside0.mk H
            clear H
            go_upto_if 46 with (fail)
            go_cut [] (fun wc => ∃ (kq : Nat) (x240001_38 : List ByteArray) (u240001 : Value), Aside0 (spec_l18Draw.j3 kq x3_1 y225 x5_1 x7_2 s0_0 x1001_29 x1002_29 (rdOf ByteArray.empty y225 x5_1) x240001_38 x240002_2 ((⟨#[114, 117, 110, 32]⟩ : ByteArray) ++ t235) t236 = some (r1, r2, r3)) ∧ Aside0 (kq ≤ kj29) ∧ Aside0 (Kd.S k55 55 wc w.heap.size (fun k_ => some k_ ≠ ((.slice (some ad231) y225.length co16) : Value).ownBlock ∧ some k_ ≠ (u240001 : Value).ownBlock ∧ some k_ ≠ (u240002 : Value).ownBlock ∧ k_ ≠ gb239) u3 x3_1) ∧ Aside0 (Kd.R Kd.string 9 wc w.heap.size (fun k_ => some k_ ≠ (u240001 : Value).ownBlock ∧ some k_ ≠ (u240002 : Value).ownBlock) (.slice (some ad231) y225.length co16) y225) ∧ Aside0 (Kd.R Kd.string 9 wc w.heap.size (fun k_ => some k_ ≠ ((.slice (some ad231) y225.length co16) : Value).ownBlock ∧ some k_ ≠ (u240002 : Value).ownBlock) u240001 x240001_38) ∧ Aside0 (Kd.R Kd.string 9 wc w.heap.size (fun k_ => some k_ ≠ ((.slice (some ad231) y225.length co16) : Value).ownBlock ∧ some k_ ≠ (u240001 : Value).ownBlock) u240002 x240002_2) ∧ Aside0 (wc.heap[gb239]? = some (.cells #[.string (rdOf ByteArray.empty y225 x5_1), u240001, u240002, .string ((⟨#[114, 117, 110, 32]⟩ : ByteArray) ++ t235), .bool t236] 55 (0, 0))) ∧ Aside0 (IsS94 w0 wc g s0_0 x1001_29 x1002_29) ∧ Aside0 (KeepBut w wc g none) ∧ Aside0 (Below w0.heap.size w0 wc))
            case first =>
             have H := HC39.out
             clear HC39
             by_cases c40 : x46_29 = true
             ·subst c40
              have H1 : (if 0 ≤ x7_2 then (if x7_2 < (y225.length : Int) then (if x240001_2.length < 8796093022208 then (spec_l18Draw.j3 kj29 x3_1 y225 x5_1 x7_2 s0_0 x1001_29 x1002_29 (rdOf ByteArray.empty y225 x5_1) (x240001_2 ++ [rdOf ByteArray.empty y225 x7_2]) x240002_2 ((⟨#[114, 117, 110, 32]⟩ : ByteArray) ++ t235) t236) else (none)) else (none)) else (none)) = some (r1, r2, r3) := by rw [if_pos rfl] at H; exact H
              clear H
              have H := H1
              clear H1
              by_cases c41 : 0 ≤ x7_2
              ·rw [if_pos c41] at H
               have c41b0 : decide (0 ≤ x7_2) = true := decide_eq_true c41
               clear c41
               (first | rw [c41b0] | (simp only [i64_w, i32_w]; rw [c41b0]) | skip)
               by_cases c42 : x7_2 < (y225.length : Int)
               ·rw [if_pos c42] at H
                have c42b0 : decide (x7_2 < (y225.length : Int)) = true := decide_eq_true c42
                clear c42
                by_cases c43 : x240001_2.length < 8796093022208
                ·rw [if_pos c43] at H
                 have LMc43 := Aside0.mk c43
                 clear c43
                 obtain ⟨y250, hy250⟩ : ∃ y_ : List ByteArray, y_ = (x240001_2 ++ [rdOf ByteArray.empty y225 x7_2]) := ⟨_, rfl⟩
                 replace H : (spec_l18Draw.j3 kj29 x3_1 y225 x5_1 x7_2 s0_0 x1001_29 x1002_29 (rdOf ByteArray.empty y225 x5_1) y250 x240002_2 ((⟨#[114, 117, 110, 32]⟩ : ByteArray) ++ t235) t236) = some (r1, r2, r3) := by first | (rw [hy250]; with_reducible exact H) | (have H2_ := (Option.bind_some _ _).symm.trans H; rw [hy250]; with_reducible exact H2_) | (have H2_ := (Option.bind_some _ _).symm.trans H; with_reducible exact H2_) | with_reducible exact H | (rw [hy250]; exact H) | exact H
                 have Ny250 := Aside0.mk hy250
                 clear hy250
                 have H' := Aside0.mk H
                 clear H
                 try go_wp2
                 replace HO_3 := Aside0.mk (Kd.S_drew HO_3.out)
                 replace HO_4 := Aside0.mk (Kd.R_drew HO_4.out)
                 replace HO_240001 := Aside0.mk (Kd.R_drew HO_240001.out)
                 replace HO_240002 := Aside0.mk (Kd.R_drew HO_240002.out)
                 replace BK239 := Aside0.mk (blk_drew BK239.out)
                 replace HI0 := Aside0.mk (IsS94.drew HI0.out)
                 replace HK := Aside0.mk (keep_drew HK.out)
                 replace HB := Aside0.mk (below_drew1 HB.out)
                 have p249 : 0 ≤ (x7_2 : Int) := of_decide_eq_true zba7
                 have q249 : x7_2 < (y225.length : Int) := of_decide_eq_true zba7
                 obtain ⟨ad249, e249, hx249_0⟩ := Kd.at_string (Kd.R_reads' HO_4.out).2.2 x7_2 p249 q249
                 obtain rfl : ad231 = ad249 := (by injection e249)
                 replace p249 := eq_true p249
                 replace q249 := eq_true q249
                 refine start_ (n := 10) (S := fun w' => w'.cell? ⟨gb239, 0, none⟩ = some (.string (rdOf ByteArray.empty y225 x5_1)) ∧ w'.cell? ⟨gb239, 1, none⟩ = some (u240001) ∧ w'.cell? ⟨gb239, 2, none⟩ = some (u240002) ∧ w'.cell? ⟨gb239, 3, none⟩ = some (.string ((⟨#[114, 117, 110, 32]⟩ : ByteArray) ++ t235)) ∧ w'.cell? ⟨gb239, 4, none⟩ = some (.bool t236) ∧ w'.cell? (ad231.add (x7_2).toNat) = some (.string (rdOf ByteArray.empty y225 x7_2))) (ds := [7, 9]) (tf 10 0) (by kernel_rfl) rfl rfl ⟨(blk_cell BK239.out 0).trans rfl, (blk_cell BK239.out 1).trans rfl, (blk_cell BK239.out 2).trans rfl, (blk_cell BK239.out 3).trans rfl, (blk_cell BK239.out 4).trans rfl, hx249_0⟩ (fun hHeld => ?_); refine with_tabW spec_l18Draw.tab12 spec_l18Draw.bits12 (fun HT_ HW_ => ?_)
                 generalize wc.drew = w44 at HO_3 HO_4 HO_240001 HO_240002 BK239 HI0 HK HB hx249_0 hHeld ⊢
                 refine qA 0 47 (tf 10 1) ?_
                 refine qA 2 49 (tf 10 5) ?_
                 refine qA 3 50 (tf 10 13) ?_
                 refine qA 4 51 (tf 10 29) ?_
                 refine qT 1 48 (tf 10 31) ?_
                 refine qT 5 52 (tf 10 63) ?_
                 refine one_ (i := 6) (N := some 53) (tf 10 127) rfl rfl (one_of HT_.out (by kernel_rfl)) (by decide) (fun K hK => ?_)
                 refine value_ (w1 := ?_) (v := ?_) (by rfl) rfl ?_ ?_
                 rotate_left 2
                 ·go_simp
                  constructor
                  ·rfl
                  ·rfl
                 refine hK.out _ _ ⟨(blk_cell (blk_alloc BK239.out _) 0).trans rfl, (blk_cell (blk_alloc BK239.out _) 1).trans rfl, (blk_cell (blk_alloc BK239.out _) 2).trans rfl, (blk_cell (blk_alloc BK239.out _) 3).trans rfl, (blk_cell (blk_alloc BK239.out _) 4).trans rfl, (World.cell?_alloc_lt _ _ _ (World.block_lt_of_cell? _ _ (hHeld.2.2.2.2.2))).trans (hHeld.2.2.2.2.2)⟩ (fun hHeld => ?_)
                 clear hK K
                 refine norm_ (a' := ?_) ?_ ?_
                 rotate_left
                 ·show Act.put _ (some 53) _ = _
                  simp only [Act.put, sT, s0, sS, i64_w, i32_w]
                  rfl
                 refine last_ (i := 7) (N := some 54) (tf 10 255) rfl rfl (one_of HT_.out (by kernel_rfl)) (by decide) (fun K hK => ?_)
                 refine Kd.R_append_step Kd.string w.heap.size (by rfl) (.tmp 48) (.tmp 53) 29 9 (.string ⟨#[]⟩) 16 rfl Try.underlying29 info9 rfl (by decide) (by omega) u240001 x240001_2 (rdOf ByteArray.empty y225 x7_2) [.string (rdOf ByteArray.empty y225 x7_2)] (fun k_ => some k_ ≠ (.slice (some ad231) y225.length co16 : Value).ownBlock ∧ some k_ ≠ (u240002 : Value).ownBlock) (fun _ => False) rfl rfl ?aP (fun _ hk => hk.elim) ?aF ?aO (Below.refl _ _) ?aS ?aL ?_
                 (case aP => exact rfl)
                 (case aF => exact (fun k_ hk => ⟨Kd.fresh' (Kd.R_lt (zba5 HO_4.out)) k_ hk, Kd.fresh' (Kd.R_lt (zba5 HO_240002.out)) k_ hk⟩))
                 (case aO => exact (zba5 HO_240001.out))
                 (case aS => exact (keep_size (w := w) (g := g) (row := none) zba11))
                 (case aL => have := LMc43.out; omega)
                 intro v251 w45 ho hb hg hat
                 rw [← Ny250.out] at ho
                 replace HO_3 := Aside0.mk (Kd.S_after (ok := (fun k_ => some k_ ≠ (.slice (some ad231) y225.length co16 : Value).ownBlock ∧ some k_ ≠ (u240002 : Value).ownBlock ∧ k_ ≠ gb239)) (by (with_reducible repeat (first | apply Kd.S_alloc | apply Kd.S_drewN | apply Kd.S_drew)); exact Kd.S_mono HO_3.out (fun _ hk => ⟨⟨hk.1, ⟨hk.2.2.1, hk.2.2.2⟩⟩, hk.2.1⟩)) hg hat)
                 replace HO_4 := Aside0.mk (Kd.R_after (ok := (fun k_ => some k_ ≠ (u240002 : Value).ownBlock)) (by (with_reducible repeat (first | apply Kd.R_alloc | apply Kd.R_drewN | apply Kd.R_drew)); exact Kd.R_mono HO_4.out (fun _ hk => ⟨hk.2, hk.1⟩)) hg hat)
                 replace HO_240002 := Aside0.mk (Kd.R_after (ok := (fun k_ => some k_ ≠ (.slice (some ad231) y225.length co16 : Value).ownBlock)) (zba5 HO_240002.out) hg hat)
                 replace BK239 := Aside0.mk (blk_grown (g := gb239) (qK BK239.out) hg (Kd.R_ne HO_240001.out BK239.out (by decide)))
                 replace HB := Aside0.mk (below_weaken zba12 HL.out hb)
                 replace HI0 := Aside0.mk (IsS94.grown zba10 hg (IsS94.own_ne HI0.out HO_240001.out (by decide)))
                 replace HK := Aside0.mk (KeepBut.trans zba11 (KeepBut.of_grown hg g) (Kd.R_base2 HO_240001.out))
                 have HO252 := Aside0.mk (ho)
                 clear HO_240001
                 clear ho hb hg hat
                 obtain ⟨Ao46, co46, eo46⟩ := Kd.R_slice HO252.out
                 (first | subst eo46 | (injection eo46 with f1_ f2_ f3_; have f4_ := f1_.symm; have f5_ := f3_.symm; clear f1_ f2_ f3_; subst f4_; subst f5_))
                 refine hK.out _ _ ?_
                 clear hK K
                 refine norm_ (a' := ?_) ?_ ?_
                 rotate_left
                 ·show Act.put _ (some 54) _ = _
                  simp only [Act.put, sT, s0, sS, i64_w, i32_w]
                  rfl
                 refine qA 8 55 (tf 10 511) ?_
                 refine last_ (i := 9) (N := none) (tf 10 1023) rfl rfl (one_of HT_.out (by kernel_rfl)) (by decide) (fun K hK => ?_)
                 have hs47 : w45.cell? ⟨gb239, 1, none⟩ = some (u240001) := (blk_cell BK239.out 1).trans rfl
                 have hfs47 := blk_frozen BK239.out 1
                 refine skip_ (w1 := ?_) (by rfl) rfl ?_ ?_
                 rotate_left
                 ·go_simp
                  rfl
                 refine hK.out _ _ ?_
                 clear hK K
                 refine done_ (done_of HT_.out (by kernel_rfl)) ?_
                 try go_wp2
                 go_meet
                 case rel => exact ⟨_, (y250), (.slice Ao46 y250.length co46), H', ⟨zba17⟩, ⟨by (with_reducible repeat (first | apply Kd.S_alloc | apply Kd.S_drewN | apply Kd.S_drew)); exact Kd.S_mono (Kd.S_far (p := ⟨gb239, 1, none⟩) (Kd.S_mono HO_3.out (fun k_ hk => (⟨hk, hk.1.2.2⟩ : _ ∧ k_ ≠ gb239))) (fun _ hk => hk.2) (.slice Ao46 y250.length co46)) (fun _ hk => ⟨hk.1.1.1, ⟨hk.1.2, ⟨hk.1.1.2.1, hk.1.1.2.2⟩⟩⟩)⟩, ⟨by (with_reducible repeat (first | apply Kd.R_alloc | apply Kd.R_drewN | apply Kd.R_drew)); exact Kd.R_mono (Kd.R_far (p := ⟨gb239, 1, none⟩) (Kd.R_types HO_4.out BK239.out (by decide)) (fun _ hk => hk.2) (.slice Ao46 y250.length co46)) (fun _ hk => ⟨hk.1.2, hk.1.1⟩)⟩, ⟨zba18 HO252.out⟩, ⟨zba18 HO_240002.out⟩, ⟨by (with_reducible repeat (first | refine blk_drewN ?_ _ | refine blk_drew ?_ | refine blk_alloc ?_ _)); refine blk_put (cs := #[.string (rdOf ByteArray.empty y225 x5_1), u240001, u240002, .string ((⟨#[114, 117, 110, 32]⟩ : ByteArray) ++ t235), .bool t236]) ?_ 1 _ rfl; (with_reducible repeat (first | refine blk_drewN ?_ _ | refine blk_drew ?_ | refine blk_alloc ?_ _)); exact BK239.out⟩, ⟨zba10⟩, ⟨zba11⟩, ⟨zba12⟩⟩
                ·rw [if_neg c43] at H
                 exact absurd H (by simp)
               ·rw [if_neg c42] at H
                exact absurd H (by simp)
              ·rw [if_neg c41] at H
               exact absurd H (by simp)
             ·replace c40 := Bool.eq_false_iff.mpr c40
              subst c40
              have H1 : (spec_l18Draw.j3 kj29 x3_1 y225 x5_1 x7_2 s0_0 x1001_29 x1002_29 (rdOf ByteArray.empty y225 x5_1) x240001_2 x240002_2 ((⟨#[114, 117, 110, 32]⟩ : ByteArray) ++ t235) t236) = some (r1, r2, r3) := by rw [if_neg (show ¬ (false = true) by decide)] at H; exact H
              clear H
              have H := H1
              clear H1
              have H' := Aside0.mk H
              clear H
              go_wp2
              go_meet
              case rel => exact ⟨_, (x240001_2), (u240001), H', ⟨zba17⟩, ⟨zba3 HO_3.out⟩, ⟨zba5 HO_4.out⟩, ⟨zba5 HO_240001.out⟩, ⟨zba5 HO_240002.out⟩, ⟨zba16⟩, ⟨zba10⟩, ⟨zba11⟩, ⟨zba12⟩⟩
            case rest =>
             clear HC39
             try clear c2
             try clear p2
             try clear q2
             try clear hx2
             try clear c3
             try clear c4
             try clear c7
             try clear c8
             try clear p24
             try clear q24
             try clear hx24
             try clear c29
             try clear c29b0
             try clear c32
             try clear c33
             try clear c33b0
             try clear c40
             try clear c41
             try clear c41b0
             try clear c42
             try clear c42b0
             try clear c43
             try clear hx249_0
             try clear p2
             try clear p249
             try clear q249
             obtain ⟨kq, x240001_38, u240001, HA, HJ38, HO_3, HO_4, HO_240001, HO_240002, BK239, HI0, HK, HB⟩ := hcut
             cases kq with
             | zero => exact absurd HA.out (by simp [spec_l18Draw.j3])
             | succ kj38 =>
              have H := HA.out
              clear HA
              simp only [spec_l18Draw.j3] at H
              replace H := Option.bind_eq_some_iff.mp H
              obtain ⟨⟨t253, t254, t255⟩, A480, H⟩ := H
              replace H : (if t253 = true then (if x7_2 < x5_1 then (if 0 ≤ x7_2 then (if x7_2 < (y225.length : Int) then (if x240002_2.length < 8796093022208 then (spec_l18Draw.l1 kj38 x3_1 y225 x5_1 (wrap64 (x7_2 + 1)) s0_0 t254 t255 (rdOf ByteArray.empty y225 x5_1) x240001_38 (x240002_2 ++ [rdOf ByteArray.empty y225 x7_2]) ((⟨#[114, 117, 110, 32]⟩ : ByteArray) ++ t235) t236) else (none)) else (none)) else (none)) else ((spec_l1Once.f s0_0 t254 t255 6).bind fun bt260 => (if bt260.1 = true then (if 0 ≤ x7_2 then (if x7_2 < (y225.length : Int) then (if x240002_2.length < 8796093022208 then (spec_l18Draw.l1 kj38 x3_1 y225 x5_1 (wrap64 (x7_2 + 1)) s0_0 bt260.2.1 bt260.2.2 (rdOf ByteArray.empty y225 x5_1) x240001_38 (x240002_2 ++ [rdOf ByteArray.empty y225 x7_2]) ((⟨#[114, 117, 110, 32]⟩ : ByteArray) ++ t235) t236) else (none)) else (none)) else (none)) else (spec_l18Draw.l1 kj38 x3_1 y225 x5_1 (wrap64 (x7_2 + 1)) s0_0 bt260.2.1 bt260.2.2 (rdOf ByteArray.empty y225 x5_1) x240001_38 x240002_2 ((⟨#[114, 117, 110, 32]⟩ : ByteArray) ++ t235) t236)))) else (spec_l18Draw.l1 kj38 x3_1 y225 x5_1 (wrap64 (x7_2 + 1)) s0_0 t254 t255 (rdOf ByteArray.empty y225 x5_1) x240001_38 x240002_2 ((⟨#[114, 117, 110, 32]⟩ : ByteArray) ++ t235) t236)) = some (r1, r2, r3) := H
              have A48 := Aside0.mk A480
              clear A480
              by_cases c49 : t253 = true
              ·subst c49
               have H1 : (if x7_2 < x5_1 then (if 0 ≤ x7_2 then (if x7_2 < (y225.length : Int) then (if x240002_2.length < 8796093022208 then (spec_l18Draw.l1 kj38 x3_1 y225 x5_1 (wrap64 (x7_2 + 1)) s0_0 t254 t255 (rdOf ByteArray.empty y225 x5_1) x240001_38 (x240002_2 ++ [rdOf ByteArray.empty y225 x7_2]) ((⟨#[114, 117, 110, 32]⟩ : ByteArray) ++ t235) t236) else (none)) else (none)) else (none)) else ((spec_l1Once.f s0_0 t254 t255 6).bind fun bt260 => (if bt260.1 = true then (if 0 ≤ x7_2 then (if x7_2 < (y225.length : Int) then (if x240002_2.length < 8796093022208 then (spec_l18Draw.l1 kj38 x3_1 y225 x5_1 (wrap64 (x7_2 + 1)) s0_0 bt260.2.1 bt260.2.2 (rdOf ByteArray.empty y225 x5_1) x240001_38 (x240002_2 ++ [rdOf ByteArray.empty y225 x7_2]) ((⟨#[114, 117, 110, 32]⟩ : ByteArray) ++ t235) t236) else (none)) else (none)) else (none)) else (spec_l18Draw.l1 kj38 x3_1 y225 x5_1 (wrap64 (x7_2 + 1)) s0_0 bt260.2.1 bt260.2.2 (rdOf ByteArray.empty y225 x5_1) x240001_38 x240002_2 ((⟨#[114, 117, 110, 32]⟩ : ByteArray) ++ t235) t236)))) = some (r1, r2, r3) := by rw [if_pos rfl] at H; exact H
               clear H
               have H := H1
               clear H1
               by_cases c50 : x7_2 < x5_1
               ·rw [if_pos c50] at H
                have c50b0 : decide (x7_2 < x5_1) = true := decide_eq_true c50
                clear c50
                by_cases c51 : 0 ≤ x7_2
                ·rw [if_pos c51] at H
                 have c51b0 : decide (0 ≤ x7_2) = true := decide_eq_true c51
                 clear c51
                 by_cases c52 : x7_2 < (y225.length : Int)
                 ·rw [if_pos c52] at H
                  have c52b0 : decide (x7_2 < (y225.length : Int)) = true := decide_eq_true c52
                  clear c52
                  by_cases c53 : x240002_2.length < 8796093022208
                  ·rw [if_pos c53] at H
                   have LMc53 := Aside0.mk c53
                   clear c53
                   obtain ⟨y257, hy257⟩ : ∃ y_ : List ByteArray, y_ = (x240002_2 ++ [rdOf ByteArray.empty y225 x7_2]) := ⟨_, rfl⟩
                   replace H : (spec_l18Draw.l1 kj38 x3_1 y225 x5_1 (wrap64 (x7_2 + 1)) s0_0 t254 t255 (rdOf ByteArray.empty y225 x5_1) x240001_38 y257 ((⟨#[114, 117, 110, 32]⟩ : ByteArray) ++ t235) t236) = some (r1, r2, r3) := by first | (rw [hy257]; with_reducible exact H) | (have H2_ := (Option.bind_some _ _).symm.trans H; rw [hy257]; with_reducible exact H2_) | (have H2_ := (Option.bind_some _ _).symm.trans H; with_reducible exact H2_) | with_reducible exact H | (rw [hy257]; exact H) | exact H
                   have Ny257 := Aside0.mk hy257
                   clear hy257
                   have H' := Aside0.mk H
                   clear H
                   try go_wp2_with (first | ((with_reducible refine gate_callee (f := 73) rfl ?_); refine goesL_ (some 57) rfl rfl Try.func73 (by kernel_rfl) rfl #[.pointer (some ⟨g, 0, none⟩), .int .i64 6] rfl zba6 ?_; (with_reducible refine (spec_l1Once.calls g s0_0 x1001_29 x1002_29 6 true t254 t255 w0 _ ?side1 ?side2 A48.out).mono ?_); (case side1 => exact zba10); (case side2 => exact zba12); rintro e w54 ⟨rfl, hi, hb, hk⟩; refine ⟨_, rfl, ?_⟩; replace HO_3 := Aside0.mk (Kd.S_mono (Kd.S_keep (IsS94.apartS (show IsS94 w0 _ g s0_0 x1001_29 x1002_29 from zba10) (zba3 HO_3.out) (by decide)) hk (fun _ h => h.2)) (fun _ h => h.1)); replace HO_4 := Aside0.mk (Kd.R_mono (Kd.R_keep (IsS94.apart (show IsS94 w0 _ g s0_0 x1001_29 x1002_29 from zba10) (zba5 HO_4.out) (by decide)) hk (fun _ h => h.2)) (fun _ h => h.1)); replace HO_240001 := Aside0.mk (Kd.R_mono (Kd.R_keep (IsS94.apart (show IsS94 w0 _ g s0_0 x1001_29 x1002_29 from zba10) (zba5 HO_240001.out) (by decide)) hk (fun _ h => h.2)) (fun _ h => h.1)); replace HO_240002 := Aside0.mk (Kd.R_mono (Kd.R_keep (IsS94.apart (show IsS94 w0 _ g s0_0 x1001_29 x1002_29 from zba10) (zba5 HO_240002.out) (by decide)) hk (fun _ h => h.2)) (fun _ h => h.1)); replace BK239 := Aside0.mk (KeepBut.blk hk (g' := gb239) (qK BK239.out) NB239_0.out (by simp)); replace HK := Aside0.mk (KeepBut.trans zba11 hk (.inl rfl)); replace HB := Aside0.mk (hb); replace HI0 := Aside0.mk (hi); (try clear hb); (try clear hb2); (try clear hk); (try clear hi)))
                   replace HO_3 := Aside0.mk (Kd.S_drew HO_3.out)
                   replace HO_4 := Aside0.mk (Kd.R_drew HO_4.out)
                   replace HO_240001 := Aside0.mk (Kd.R_drew HO_240001.out)
                   replace HO_240002 := Aside0.mk (Kd.R_drew HO_240002.out)
                   replace BK239 := Aside0.mk (blk_drew BK239.out)
                   replace HI0 := Aside0.mk (IsS94.drew HI0.out)
                   replace HK := Aside0.mk (keep_drew HK.out)
                   replace HB := Aside0.mk (below_drew1 HB.out)
                   have p256 : 0 ≤ (x7_2 : Int) := of_decide_eq_true zba7
                   have q256 : x7_2 < (y225.length : Int) := of_decide_eq_true zba7
                   obtain ⟨ad256, e256, hx256_0⟩ := Kd.at_string (Kd.R_reads' HO_4.out).2.2 x7_2 p256 q256
                   obtain rfl : ad231 = ad256 := (by injection e256)
                   replace p256 := eq_true p256
                   replace q256 := eq_true q256
                   refine start_ (n := 10) (S := fun w' => w'.cell? ⟨gb239, 0, none⟩ = some (.string (rdOf ByteArray.empty y225 x5_1)) ∧ w'.cell? ⟨gb239, 1, none⟩ = some (u240001) ∧ w'.cell? ⟨gb239, 2, none⟩ = some (u240002) ∧ w'.cell? ⟨gb239, 3, none⟩ = some (.string ((⟨#[114, 117, 110, 32]⟩ : ByteArray) ++ t235)) ∧ w'.cell? ⟨gb239, 4, none⟩ = some (.bool t236) ∧ w'.cell? (ad231.add (x7_2).toNat) = some (.string (rdOf ByteArray.empty y225 x7_2))) (ds := [7, 9]) (tf 10 0) (by kernel_rfl) rfl rfl ⟨(blk_cell BK239.out 0).trans rfl, (blk_cell BK239.out 1).trans rfl, (blk_cell BK239.out 2).trans rfl, (blk_cell BK239.out 3).trans rfl, (blk_cell BK239.out 4).trans rfl, hx256_0⟩ (fun hHeld => ?_); refine with_tabW spec_l18Draw.tab14 spec_l18Draw.bits14 (fun HT_ HW_ => ?_)
                   generalize w54.drew = w55 at HO_3 HO_4 HO_240001 HO_240002 BK239 HI0 HK HB hx256_0 hHeld ⊢
                   refine qA 0 67 (tf 10 1) ?_
                   refine qA 2 69 (tf 10 5) ?_
                   refine qA 3 70 (tf 10 13) ?_
                   refine qA 4 71 (tf 10 29) ?_
                   refine qT 1 68 (tf 10 31) ?_
                   refine qT 5 72 (tf 10 63) ?_
                   refine one_ (i := 6) (N := some 73) (tf 10 127) rfl rfl (one_of HT_.out (by kernel_rfl)) (by decide) (fun K hK => ?_)
                   refine value_ (w1 := ?_) (v := ?_) (by rfl) rfl ?_ ?_
                   rotate_left 2
                   ·go_simp
                    constructor
                    ·rfl
                    ·rfl
                   refine hK.out _ _ ⟨(blk_cell (blk_alloc BK239.out _) 0).trans rfl, (blk_cell (blk_alloc BK239.out _) 1).trans rfl, (blk_cell (blk_alloc BK239.out _) 2).trans rfl, (blk_cell (blk_alloc BK239.out _) 3).trans rfl, (blk_cell (blk_alloc BK239.out _) 4).trans rfl, (World.cell?_alloc_lt _ _ _ (World.block_lt_of_cell? _ _ (hHeld.2.2.2.2.2))).trans (hHeld.2.2.2.2.2)⟩ (fun hHeld => ?_)
                   clear hK K
                   refine norm_ (a' := ?_) ?_ ?_
                   rotate_left
                   ·show Act.put _ (some 73) _ = _
                    simp only [Act.put, sT, s0, sS, i64_w, i32_w]
                    rfl
                   refine last_ (i := 7) (N := some 74) (tf 10 255) rfl rfl (one_of HT_.out (by kernel_rfl)) (by decide) (fun K hK => ?_)
                   refine Kd.R_append_step Kd.string w.heap.size (by rfl) (.tmp 68) (.tmp 73) 29 9 (.string ⟨#[]⟩) 16 rfl Try.underlying29 info9 rfl (by decide) (by omega) u240002 x240002_2 (rdOf ByteArray.empty y225 x7_2) [.string (rdOf ByteArray.empty y225 x7_2)] (fun k_ => some k_ ≠ (.slice (some ad231) y225.length co16 : Value).ownBlock ∧ some k_ ≠ (u240001 : Value).ownBlock) (fun _ => False) rfl rfl ?aP (fun _ hk => hk.elim) ?aF ?aO (Below.refl _ _) ?aS ?aL ?_
                   (case aP => exact rfl)
                   (case aF => exact (fun k_ hk => ⟨Kd.fresh' (Kd.R_lt (zba5 HO_4.out)) k_ hk, Kd.fresh' (Kd.R_lt (zba5 HO_240001.out)) k_ hk⟩))
                   (case aO => exact (zba5 HO_240002.out))
                   (case aS => exact (keep_size (w := w) (g := g) (row := none) zba11))
                   (case aL => have := LMc53.out; omega)
                   intro v258 w56 ho hb hg hat
                   rw [← Ny257.out] at ho
                   replace HO_3 := Aside0.mk (Kd.S_after (ok := (fun k_ => some k_ ≠ (.slice (some ad231) y225.length co16 : Value).ownBlock ∧ some k_ ≠ (u240001 : Value).ownBlock ∧ k_ ≠ gb239)) zba19 hg hat)
                   replace HO_4 := Aside0.mk (Kd.R_after (ok := (fun k_ => some k_ ≠ (u240001 : Value).ownBlock)) (zba5 HO_4.out) hg hat)
                   replace HO_240001 := Aside0.mk (Kd.R_after (ok := (fun k_ => some k_ ≠ (.slice (some ad231) y225.length co16 : Value).ownBlock)) (zba5 HO_240001.out) hg hat)
                   replace BK239 := Aside0.mk (blk_grown (g := gb239) (qK BK239.out) hg (Kd.R_ne HO_240002.out BK239.out (by decide)))
                   replace HB := Aside0.mk (below_weaken zba12 HL.out hb)
                   replace HI0 := Aside0.mk (IsS94.grown zba10 hg (IsS94.own_ne HI0.out HO_240002.out (by decide)))
                   replace HK := Aside0.mk (KeepBut.trans zba11 (KeepBut.of_grown hg g) (Kd.R_base2 HO_240002.out))
                   have HO259 := Aside0.mk (ho)
                   clear HO_240002
                   clear ho hb hg hat
                   obtain ⟨Ao57, co57, eo57⟩ := Kd.R_slice HO259.out
                   (first | subst eo57 | (injection eo57 with f1_ f2_ f3_; have f4_ := f1_.symm; have f5_ := f3_.symm; clear f1_ f2_ f3_; subst f4_; subst f5_))
                   refine hK.out _ _ ?_
                   clear hK K
                   refine norm_ (a' := ?_) ?_ ?_
                   rotate_left
                   ·show Act.put _ (some 74) _ = _
                    simp only [Act.put, sT, s0, sS, i64_w, i32_w]
                    rfl
                   refine qA 8 75 (tf 10 511) ?_
                   refine last_ (i := 9) (N := none) (tf 10 1023) rfl rfl (one_of HT_.out (by kernel_rfl)) (by decide) (fun K hK => ?_)
                   have hs58 : w56.cell? ⟨gb239, 2, none⟩ = some (u240002) := (blk_cell BK239.out 2).trans rfl
                   have hfs58 := blk_frozen BK239.out 2
                   refine skip_ (w1 := ?_) (by rfl) rfl ?_ ?_
                   rotate_left
                   ·go_simp
                    rfl
                   refine hK.out _ _ ?_
                   clear hK K
                   refine done_ (done_of HT_.out (by kernel_rfl)) ?_
                   try go_wp2
                   go_roundg kj38
                   case measure => have := HK1.out; have := HK2.out; have := HJ29.out; have := HJ38.out; omega
                   case rel => exact ⟨(wrap64 (x7_2 + 1)), (t254), (t255), (x240001_38), (y257), (u240001), (.slice Ao57 y257.length co57), zba4, H', ⟨zba20⟩, ⟨by (with_reducible repeat (first | apply Kd.S_alloc | apply Kd.S_drewN | apply Kd.S_drew)); exact Kd.S_mono (Kd.S_far (p := ⟨gb239, 2, none⟩) (Kd.S_mono HO_3.out (fun k_ hk => (⟨hk, hk.1.2.2⟩ : _ ∧ k_ ≠ gb239))) (fun _ hk => hk.2) (.slice Ao57 y257.length co57)) (fun _ hk => ⟨hk.1.1.1, ⟨hk.1.1.2.1, ⟨hk.1.2, hk.1.1.2.2⟩⟩⟩)⟩, ⟨zba21 HO_4.out⟩, ⟨zba21 HO_240001.out⟩, ⟨zba21 HO259.out⟩, ⟨zba22⟩, ⟨zba10⟩, ⟨zba11⟩, ⟨zba12⟩⟩
                  ·rw [if_neg c53] at H
                   exact absurd H (by simp)
                 ·rw [if_neg c52] at H
                  exact absurd H (by simp)
                ·rw [if_neg c51] at H
                 exact absurd H (by simp)
               ·rw [if_neg c50] at H
                have c50b0 : decide (x7_2 < x5_1) = false := decide_eq_false c50
                clear c50
                replace H := Option.bind_eq_some_iff.mp H
                obtain ⟨⟨t260, t261, t262⟩, A590, H⟩ := H
                replace H : (if t260 = true then (if 0 ≤ x7_2 then (if x7_2 < (y225.length : Int) then (if x240002_2.length < 8796093022208 then (spec_l18Draw.l1 kj38 x3_1 y225 x5_1 (wrap64 (x7_2 + 1)) s0_0 t261 t262 (rdOf ByteArray.empty y225 x5_1) x240001_38 (x240002_2 ++ [rdOf ByteArray.empty y225 x7_2]) ((⟨#[114, 117, 110, 32]⟩ : ByteArray) ++ t235) t236) else (none)) else (none)) else (none)) else (spec_l18Draw.l1 kj38 x3_1 y225 x5_1 (wrap64 (x7_2 + 1)) s0_0 t261 t262 (rdOf ByteArray.empty y225 x5_1) x240001_38 x240002_2 ((⟨#[114, 117, 110, 32]⟩ : ByteArray) ++ t235) t236)) = some (r1, r2, r3) := H
                have A59 := Aside0.mk A590
                clear A590
                by_cases c60 : t260 = true
                ·subst c60
                 have H1 : (if 0 ≤ x7_2 then (if x7_2 < (y225.length : Int) then (if x240002_2.length < 8796093022208 then (spec_l18Draw.l1 kj38 x3_1 y225 x5_1 (wrap64 (x7_2 + 1)) s0_0 t261 t262 (rdOf ByteArray.empty y225 x5_1) x240001_38 (x240002_2 ++ [rdOf ByteArray.empty y225 x7_2]) ((⟨#[114, 117, 110, 32]⟩ : ByteArray) ++ t235) t236) else (none)) else (none)) else (none)) = some (r1, r2, r3) := by rw [if_pos rfl] at H; exact H
                 clear H
                 have H := H1
                 clear H1
                 by_cases c61 : 0 ≤ x7_2
                 ·rw [if_pos c61] at H
                  have c61b0 : decide (0 ≤ x7_2) = true := decide_eq_true c61
                  clear c61
                  by_cases c62 : x7_2 < (y225.length : Int)
                  ·rw [if_pos c62] at H
                   have c62b0 : decide (x7_2 < (y225.length : Int)) = true := decide_eq_true c62
                   clear c62
                   by_cases c63 : x240002_2.length < 8796093022208
                   ·rw [if_pos c63] at H
                    have LMc63 := Aside0.mk c63
                    clear c63
                    obtain ⟨y264, hy264⟩ : ∃ y_ : List ByteArray, y_ = (x240002_2 ++ [rdOf ByteArray.empty y225 x7_2]) := ⟨_, rfl⟩
                    replace H : (spec_l18Draw.l1 kj38 x3_1 y225 x5_1 (wrap64 (x7_2 + 1)) s0_0 t261 t262 (rdOf ByteArray.empty y225 x5_1) x240001_38 y264 ((⟨#[114, 117, 110, 32]⟩ : ByteArray) ++ t235) t236) = some (r1, r2, r3) := by first | (rw [hy264]; with_reducible exact H) | (have H2_ := (Option.bind_some _ _).symm.trans H; rw [hy264]; with_reducible exact H2_) | (have H2_ := (Option.bind_some _ _).symm.trans H; with_reducible exact H2_) | with_reducible exact H | (rw [hy264]; exact H) | exact H
                    have Ny264 := Aside0.mk hy264
                    clear hy264
                    have H' := Aside0.mk H
                    clear H
                    try go_wp2_with (first | ((with_reducible refine gate_callee (f := 73) rfl ?_); refine goesL_ (some 57) rfl rfl Try.func73 (by kernel_rfl) rfl #[.pointer (some ⟨g, 0, none⟩), .int .i64 6] rfl zba6 ?_; (with_reducible refine (spec_l1Once.calls g s0_0 x1001_29 x1002_29 6 true t254 t255 w0 _ ?side1 ?side2 A48.out).mono ?_); (case side1 => exact zba10); (case side2 => exact zba12); rintro e w64 ⟨rfl, hi, hb, hk⟩; refine ⟨_, rfl, ?_⟩; replace HO_3 := Aside0.mk (Kd.S_mono (Kd.S_keep (IsS94.apartS (show IsS94 w0 _ g s0_0 x1001_29 x1002_29 from zba10) (zba3 HO_3.out) (by decide)) hk (fun _ h => h.2)) (fun _ h => h.1)); replace HO_4 := Aside0.mk (Kd.R_mono (Kd.R_keep (IsS94.apart (show IsS94 w0 _ g s0_0 x1001_29 x1002_29 from zba10) (zba5 HO_4.out) (by decide)) hk (fun _ h => h.2)) (fun _ h => h.1)); replace HO_240001 := Aside0.mk (Kd.R_mono (Kd.R_keep (IsS94.apart (show IsS94 w0 _ g s0_0 x1001_29 x1002_29 from zba10) (zba5 HO_240001.out) (by decide)) hk (fun _ h => h.2)) (fun _ h => h.1)); replace HO_240002 := Aside0.mk (Kd.R_mono (Kd.R_keep (IsS94.apart (show IsS94 w0 _ g s0_0 x1001_29 x1002_29 from zba10) (zba5 HO_240002.out) (by decide)) hk (fun _ h => h.2)) (fun _ h => h.1)); replace BK239 := Aside0.mk (KeepBut.blk hk (g' := gb239) (qK BK239.out) NB239_0.out (by simp)); replace HK := Aside0.mk (KeepBut.trans zba11 hk (.inl rfl)); replace HB := Aside0.mk (hb); replace HI0 := Aside0.mk (hi); (try clear hb); (try clear hb2); (try clear hk); (try clear hi)) | (go_at_call 73; (with_reducible refine (spec_l1Once.calls g s0_0 t254 t255 6 true t261 t262 w0 _ ?side1 ?side2 A59.out).mono ?_); (case side1 => exact zba10); (case side2 => exact zba12); rintro e w65 ⟨rfl, hi, hb, hk⟩; replace HO_3 := Aside0.mk (Kd.S_mono (Kd.S_keep (IsS94.apartS (show IsS94 w0 _ g s0_0 t254 t255 from zba10) (zba3 HO_3.out) (by decide)) hk (fun _ h => h.2)) (fun _ h => h.1)); replace HO_4 := Aside0.mk (Kd.R_mono (Kd.R_keep (IsS94.apart (show IsS94 w0 _ g s0_0 t254 t255 from zba10) (zba5 HO_4.out) (by decide)) hk (fun _ h => h.2)) (fun _ h => h.1)); replace HO_240001 := Aside0.mk (Kd.R_mono (Kd.R_keep (IsS94.apart (show IsS94 w0 _ g s0_0 t254 t255 from zba10) (zba5 HO_240001.out) (by decide)) hk (fun _ h => h.2)) (fun _ h => h.1)); replace HO_240002 := Aside0.mk (Kd.R_mono (Kd.R_keep (IsS94.apart (show IsS94 w0 _ g s0_0 t254 t255 from zba10) (zba5 HO_240002.out) (by decide)) hk (fun _ h => h.2)) (fun _ h => h.1)); replace BK239 := Aside0.mk (KeepBut.blk hk (g' := gb239) (qK BK239.out) NB239_0.out (by simp)); replace HK := Aside0.mk (KeepBut.trans zba11 hk (.inl rfl)); replace HB := Aside0.mk (hb); replace HI0 := Aside0.mk (hi); (try clear hb); (try clear hb2); (try clear hk); (try clear hi)))
                    replace HO_3 := Aside0.mk (Kd.S_drew HO_3.out)
                    replace HO_4 := Aside0.mk (Kd.R_drew HO_4.out)
                    replace HO_240001 := Aside0.mk (Kd.R_drew HO_240001.out)
                    replace HO_240002 := Aside0.mk (Kd.R_drew HO_240002.out)
                    replace BK239 := Aside0.mk (blk_drew BK239.out)
                    replace HI0 := Aside0.mk (IsS94.drew HI0.out)
                    replace HK := Aside0.mk (keep_drew HK.out)
                    replace HB := Aside0.mk (below_drew1 HB.out)
                    have p263 : 0 ≤ (x7_2 : Int) := of_decide_eq_true zba7
                    have q263 : x7_2 < (y225.length : Int) := of_decide_eq_true zba7
                    obtain ⟨ad263, e263, hx263_0⟩ := Kd.at_string (Kd.R_reads' HO_4.out).2.2 x7_2 p263 q263
                    obtain rfl : ad231 = ad263 := (by injection e263)
                    replace p263 := eq_true p263
                    replace q263 := eq_true q263
                    refine start_ (n := 10) (S := fun w' => w'.cell? ⟨gb239, 0, none⟩ = some (.string (rdOf ByteArray.empty y225 x5_1)) ∧ w'.cell? ⟨gb239, 1, none⟩ = some (u240001) ∧ w'.cell? ⟨gb239, 2, none⟩ = some (u240002) ∧ w'.cell? ⟨gb239, 3, none⟩ = some (.string ((⟨#[114, 117, 110, 32]⟩ : ByteArray) ++ t235)) ∧ w'.cell? ⟨gb239, 4, none⟩ = some (.bool t236) ∧ w'.cell? (ad231.add (x7_2).toNat) = some (.string (rdOf ByteArray.empty y225 x7_2))) (ds := [7, 9]) (tf 10 0) (by kernel_rfl) rfl rfl ⟨(blk_cell BK239.out 0).trans rfl, (blk_cell BK239.out 1).trans rfl, (blk_cell BK239.out 2).trans rfl, (blk_cell BK239.out 3).trans rfl, (blk_cell BK239.out 4).trans rfl, hx263_0⟩ (fun hHeld => ?_); refine with_tabW spec_l18Draw.tab14 spec_l18Draw.bits14 (fun HT_ HW_ => ?_)
                    generalize w65.drew = w66 at HO_3 HO_4 HO_240001 HO_240002 BK239 HI0 HK HB hx263_0 hHeld ⊢
                    refine qA 0 67 (tf 10 1) ?_
                    refine qA 2 69 (tf 10 5) ?_
                    refine qA 3 70 (tf 10 13) ?_
                    refine qA 4 71 (tf 10 29) ?_
                    refine qT 1 68 (tf 10 31) ?_
                    refine qT 5 72 (tf 10 63) ?_
                    refine one_ (i := 6) (N := some 73) (tf 10 127) rfl rfl (one_of HT_.out (by kernel_rfl)) (by decide) (fun K hK => ?_)
                    refine value_ (w1 := ?_) (v := ?_) (by rfl) rfl ?_ ?_
                    rotate_left 2
                    ·go_simp
                     constructor
                     ·rfl
                     ·rfl
                    refine hK.out _ _ ⟨(blk_cell (blk_alloc BK239.out _) 0).trans rfl, (blk_cell (blk_alloc BK239.out _) 1).trans rfl, (blk_cell (blk_alloc BK239.out _) 2).trans rfl, (blk_cell (blk_alloc BK239.out _) 3).trans rfl, (blk_cell (blk_alloc BK239.out _) 4).trans rfl, (World.cell?_alloc_lt _ _ _ (World.block_lt_of_cell? _ _ (hHeld.2.2.2.2.2))).trans (hHeld.2.2.2.2.2)⟩ (fun hHeld => ?_)
                    clear hK K
                    refine norm_ (a' := ?_) ?_ ?_
                    rotate_left
                    ·show Act.put _ (some 73) _ = _
                     simp only [Act.put, sT, s0, sS, i64_w, i32_w]
                     rfl
                    refine last_ (i := 7) (N := some 74) (tf 10 255) rfl rfl (one_of HT_.out (by kernel_rfl)) (by decide) (fun K hK => ?_)
                    refine Kd.R_append_step Kd.string w.heap.size (by rfl) (.tmp 68) (.tmp 73) 29 9 (.string ⟨#[]⟩) 16 rfl Try.underlying29 info9 rfl (by decide) (by omega) u240002 x240002_2 (rdOf ByteArray.empty y225 x7_2) [.string (rdOf ByteArray.empty y225 x7_2)] (fun k_ => some k_ ≠ (.slice (some ad231) y225.length co16 : Value).ownBlock ∧ some k_ ≠ (u240001 : Value).ownBlock) (fun _ => False) rfl rfl ?aP (fun _ hk => hk.elim) ?aF ?aO (Below.refl _ _) ?aS ?aL ?_
                    (case aP => exact rfl)
                    (case aF => exact (fun k_ hk => ⟨Kd.fresh' (Kd.R_lt (zba5 HO_4.out)) k_ hk, Kd.fresh' (Kd.R_lt (zba5 HO_240001.out)) k_ hk⟩))
                    (case aO => exact (zba5 HO_240002.out))
                    (case aS => exact (keep_size (w := w) (g := g) (row := none) zba11))
                    (case aL => have := LMc63.out; omega)
                    intro v265 w67 ho hb hg hat
                    rw [← Ny264.out] at ho
                    replace HO_3 := Aside0.mk (Kd.S_after (ok := (fun k_ => some k_ ≠ (.slice (some ad231) y225.length co16 : Value).ownBlock ∧ some k_ ≠ (u240001 : Value).ownBlock ∧ k_ ≠ gb239)) zba19 hg hat)
                    replace HO_4 := Aside0.mk (Kd.R_after (ok := (fun k_ => some k_ ≠ (u240001 : Value).ownBlock)) (zba5 HO_4.out) hg hat)
                    replace HO_240001 := Aside0.mk (Kd.R_after (ok := (fun k_ => some k_ ≠ (.slice (some ad231) y225.length co16 : Value).ownBlock)) (zba5 HO_240001.out) hg hat)
                    replace BK239 := Aside0.mk (blk_grown (g := gb239) (qK BK239.out) hg (Kd.R_ne HO_240002.out BK239.out (by decide)))
                    replace HB := Aside0.mk (below_weaken zba12 HL.out hb)
                    replace HI0 := Aside0.mk (IsS94.grown zba10 hg (IsS94.own_ne HI0.out HO_240002.out (by decide)))
                    replace HK := Aside0.mk (KeepBut.trans zba11 (KeepBut.of_grown hg g) (Kd.R_base2 HO_240002.out))
                    have HO266 := Aside0.mk (ho)
                    clear HO_240002
                    clear ho hb hg hat
                    obtain ⟨Ao68, co68, eo68⟩ := Kd.R_slice HO266.out
                    (first | subst eo68 | (injection eo68 with f1_ f2_ f3_; have f4_ := f1_.symm; have f5_ := f3_.symm; clear f1_ f2_ f3_; subst f4_; subst f5_))
                    refine hK.out _ _ ?_
                    clear hK K
                    refine norm_ (a' := ?_) ?_ ?_
                    rotate_left
                    ·show Act.put _ (some 74) _ = _
                     simp only [Act.put, sT, s0, sS, i64_w, i32_w]
                     rfl
                    refine qA 8 75 (tf 10 511) ?_
                    refine last_ (i := 9) (N := none) (tf 10 1023) rfl rfl (one_of HT_.out (by kernel_rfl)) (by decide) (fun K hK => ?_)
                    have hs69 : w67.cell? ⟨gb239, 2, none⟩ = some (u240002) := (blk_cell BK239.out 2).trans rfl
                    have hfs69 := blk_frozen BK239.out 2
                    refine skip_ (w1 := ?_) (by rfl) rfl ?_ ?_
                    rotate_left
                    ·go_simp
                     rfl
                    refine hK.out _ _ ?_
                    clear hK K
                    refine done_ (done_of HT_.out (by kernel_rfl)) ?_
                    try go_wp2
                    go_roundg kj38
                    case measure => have := HK1.out; have := HK2.out; have := HJ29.out; have := HJ38.out; omega
                    case rel => exact ⟨(wrap64 (x7_2 + 1)), (t261), (t262), (x240001_38), (y264), (u240001), (.slice Ao68 y264.length co68), zba4, H', ⟨zba20⟩, ⟨by (with_reducible repeat (first | apply Kd.S_alloc | apply Kd.S_drewN | apply Kd.S_drew)); exact Kd.S_mono (Kd.S_far (p := ⟨gb239, 2, none⟩) (Kd.S_mono HO_3.out (fun k_ hk => (⟨hk, hk.1.2.2⟩ : _ ∧ k_ ≠ gb239))) (fun _ hk => hk.2) (.slice Ao68 y264.length co68)) (fun _ hk => ⟨hk.1.1.1, ⟨hk.1.1.2.1, ⟨hk.1.2, hk.1.1.2.2⟩⟩⟩)⟩, ⟨zba23 HO_4.out⟩, ⟨zba23 HO_240001.out⟩, ⟨zba23 HO266.out⟩, ⟨zba22⟩, ⟨zba10⟩, ⟨zba11⟩, ⟨zba12⟩⟩
                   ·rw [if_neg c63] at H
                    exact absurd H (by simp)
                  ·rw [if_neg c62] at H
                   exact absurd H (by simp)
                 ·rw [if_neg c61] at H
                  exact absurd H (by simp)
                ·replace c60 := Bool.eq_false_iff.mpr c60
                 subst c60
                 have H1 : (spec_l18Draw.l1 kj38 x3_1 y225 x5_1 (wrap64 (x7_2 + 1)) s0_0 t261 t262 (rdOf ByteArray.empty y225 x5_1) x240001_38 x240002_2 ((⟨#[114, 117, 110, 32]⟩ : ByteArray) ++ t235) t236) = some (r1, r2, r3) := by rw [if_neg (show ¬ (false = true) by decide)] at H; exact H
                 clear H
                 have H := H1
                 clear H1
                 have H' := Aside0.mk H
                 clear H
                 go_wp2_with (first | ((with_reducible refine gate_callee (f := 73) rfl ?_); refine goesL_ (some 57) rfl rfl Try.func73 (by kernel_rfl) rfl #[.pointer (some ⟨g, 0, none⟩), .int .i64 6] rfl zba6 ?_; (with_reducible refine (spec_l1Once.calls g s0_0 x1001_29 x1002_29 6 true t254 t255 w0 _ ?side1 ?side2 A48.out).mono ?_); (case side1 => exact zba10); (case side2 => exact zba12); rintro e w70 ⟨rfl, hi, hb, hk⟩; refine ⟨_, rfl, ?_⟩; replace HO_3 := Aside0.mk (Kd.S_mono (Kd.S_keep (IsS94.apartS (show IsS94 w0 _ g s0_0 x1001_29 x1002_29 from zba10) (zba3 HO_3.out) (by decide)) hk (fun _ h => h.2)) (fun _ h => h.1)); replace HO_4 := Aside0.mk (Kd.R_mono (Kd.R_keep (IsS94.apart (show IsS94 w0 _ g s0_0 x1001_29 x1002_29 from zba10) (zba5 HO_4.out) (by decide)) hk (fun _ h => h.2)) (fun _ h => h.1)); replace HO_240001 := Aside0.mk (Kd.R_mono (Kd.R_keep (IsS94.apart (show IsS94 w0 _ g s0_0 x1001_29 x1002_29 from zba10) (zba5 HO_240001.out) (by decide)) hk (fun _ h => h.2)) (fun _ h => h.1)); replace HO_240002 := Aside0.mk (Kd.R_mono (Kd.R_keep (IsS94.apart (show IsS94 w0 _ g s0_0 x1001_29 x1002_29 from zba10) (zba5 HO_240002.out) (by decide)) hk (fun _ h => h.2)) (fun _ h => h.1)); replace BK239 := Aside0.mk (KeepBut.blk hk (g' := gb239) (qK BK239.out) NB239_0.out (by simp)); replace HK := Aside0.mk (KeepBut.trans zba11 hk (.inl rfl)); replace HB := Aside0.mk (hb); replace HI0 := Aside0.mk (hi); (try clear hb); (try clear hb2); (try clear hk); (try clear hi)) | (go_at_call 73; (with_reducible refine (spec_l1Once.calls g s0_0 t254 t255 6 false t261 t262 w0 _ ?side1 ?side2 A59.out).mono ?_); (case side1 => exact zba10); (case side2 => exact zba12); rintro e w71 ⟨rfl, hi, hb, hk⟩; replace HO_3 := Aside0.mk (Kd.S_mono (Kd.S_keep (IsS94.apartS (show IsS94 w0 _ g s0_0 t254 t255 from zba10) (zba3 HO_3.out) (by decide)) hk (fun _ h => h.2)) (fun _ h => h.1)); replace HO_4 := Aside0.mk (Kd.R_mono (Kd.R_keep (IsS94.apart (show IsS94 w0 _ g s0_0 t254 t255 from zba10) (zba5 HO_4.out) (by decide)) hk (fun _ h => h.2)) (fun _ h => h.1)); replace HO_240001 := Aside0.mk (Kd.R_mono (Kd.R_keep (IsS94.apart (show IsS94 w0 _ g s0_0 t254 t255 from zba10) (zba5 HO_240001.out) (by decide)) hk (fun _ h => h.2)) (fun _ h => h.1)); replace HO_240002 := Aside0.mk (Kd.R_mono (Kd.R_keep (IsS94.apart (show IsS94 w0 _ g s0_0 t254 t255 from zba10) (zba5 HO_240002.out) (by decide)) hk (fun _ h => h.2)) (fun _ h => h.1)); replace BK239 := Aside0.mk (KeepBut.blk hk (g' := gb239) (qK BK239.out) NB239_0.out (by simp)); replace HK := Aside0.mk (KeepBut.trans zba11 hk (.inl rfl)); replace HB := Aside0.mk (hb); replace HI0 := Aside0.mk (hi); (try clear hb); (try clear hb2); (try clear hk); (try clear hi)))
                 go_roundg kj38
                 case measure => have := HK1.out; have := HK2.out; have := HJ29.out; have := HJ38.out; omega
                 case rel => exact ⟨(wrap64 (x7_2 + 1)), (t261), (t262), (x240001_38), (x240002_2), (u240001), (u240002), zba4, H', ⟨zba20⟩, ⟨zba3 HO_3.out⟩, ⟨zba5 HO_4.out⟩, ⟨zba5 HO_240001.out⟩, ⟨zba5 HO_240002.out⟩, ⟨zba16⟩, ⟨zba10⟩, ⟨zba11⟩, ⟨zba12⟩⟩
              ·replace c49 := Bool.eq_false_iff.mpr c49
               subst c49
               have H1 : (spec_l18Draw.l1 kj38 x3_1 y225 x5_1 (wrap64 (x7_2 + 1)) s0_0 t254 t255 (rdOf ByteArray.empty y225 x5_1) x240001_38 x240002_2 ((⟨#[114, 117, 110, 32]⟩ : ByteArray) ++ t235) t236) = some (r1, r2, r3) := by rw [if_neg (show ¬ (false = true) by decide)] at H; exact H
               clear H
               have H := H1
               clear H1
               have H' := Aside0.mk H
               clear H
               go_wp2_with (first | ((with_reducible refine gate_callee (f := 73) rfl ?_); refine goesL_ (some 57) rfl rfl Try.func73 (by kernel_rfl) rfl #[.pointer (some ⟨g, 0, none⟩), .int .i64 6] rfl zba6 ?_; (with_reducible refine (spec_l1Once.calls g s0_0 x1001_29 x1002_29 6 false t254 t255 w0 _ ?side1 ?side2 A48.out).mono ?_); (case side1 => exact zba10); (case side2 => exact zba12); rintro e w72 ⟨rfl, hi, hb, hk⟩; refine ⟨_, rfl, ?_⟩; replace HO_3 := Aside0.mk (Kd.S_mono (Kd.S_keep (IsS94.apartS (show IsS94 w0 _ g s0_0 x1001_29 x1002_29 from zba10) (zba3 HO_3.out) (by decide)) hk (fun _ h => h.2)) (fun _ h => h.1)); replace HO_4 := Aside0.mk (Kd.R_mono (Kd.R_keep (IsS94.apart (show IsS94 w0 _ g s0_0 x1001_29 x1002_29 from zba10) (zba5 HO_4.out) (by decide)) hk (fun _ h => h.2)) (fun _ h => h.1)); replace HO_240001 := Aside0.mk (Kd.R_mono (Kd.R_keep (IsS94.apart (show IsS94 w0 _ g s0_0 x1001_29 x1002_29 from zba10) (zba5 HO_240001.out) (by decide)) hk (fun _ h => h.2)) (fun _ h => h.1)); replace HO_240002 := Aside0.mk (Kd.R_mono (Kd.R_keep (IsS94.apart (show IsS94 w0 _ g s0_0 x1001_29 x1002_29 from zba10) (zba5 HO_240002.out) (by decide)) hk (fun _ h => h.2)) (fun _ h => h.1)); replace BK239 := Aside0.mk (KeepBut.blk hk (g' := gb239) (qK BK239.out) NB239_0.out (by simp)); replace HK := Aside0.mk (KeepBut.trans zba11 hk (.inl rfl)); replace HB := Aside0.mk (hb); replace HI0 := Aside0.mk (hi); (try clear hb); (try clear hb2); (try clear hk); (try clear hi)))
               go_roundg kj38
               case measure => have := HK1.out; have := HK2.out; have := HJ29.out; have := HJ38.out; omega
               case rel => exact ⟨(wrap64 (x7_2 + 1)), (t254), (t255), (x240001_38), (x240002_2), (u240001), (u240002), zba4, H', ⟨zba20⟩, ⟨zba3 HO_3.out⟩, ⟨zba5 HO_4.out⟩, ⟨zba5 HO_240001.out⟩, ⟨zba5 HO_240002.out⟩, ⟨zba16⟩, ⟨zba10⟩, ⟨zba11⟩, ⟨zba12⟩⟩
         ·rw [if_neg c29] at H
          have c29b0 : decide (x7_2 < (y225.length : Int)) = false := decide_eq_false c29
          clear c29
          by_cases c73 : x3_1.length < 1599289640401
          ·rw [if_pos c73] at H
           have LMc73 := Aside0.mk c73
           clear c73
           obtain ⟨y240, hy240⟩ : ∃ y_ : List (S55), y_ = (x3_1 ++ [(⟨(rdOf ByteArray.empty y225 x5_1), x240001_2, x240002_2, ((⟨#[114, 117, 110, 32]⟩ : ByteArray) ++ t235), t236⟩ : S55)]) := ⟨_, rfl⟩
           replace H : (spec_l18Draw.l0 k2 y240 y225 (wrap64 (x5_1 + 1)) s0_0 x1001_2 x1002_2) = some (r1, r2, r3) := by first | (rw [hy240]; with_reducible exact H) | (have H2_ := (Option.bind_some _ _).symm.trans H; rw [hy240]; with_reducible exact H2_) | (have H2_ := (Option.bind_some _ _).symm.trans H; with_reducible exact H2_) | with_reducible exact H | (rw [hy240]; exact H) | exact H
           have Ny240 := Aside0.mk hy240
           clear hy240
           have H' := Aside0.mk H
           clear H
           have hnb74 := NB239_0.out
           have hnc74 := NB0_239.out
           have hcz75_0 : wr.cell? ⟨gb239, 0, none⟩ = some (.string (rdOf ByteArray.empty y225 x5_1)) := (blk_cell BK239.out 0).trans rfl
           have hcz75_1 : wr.cell? ⟨gb239, 1, none⟩ = some (u240001) := (blk_cell BK239.out 1).trans rfl
           have hcz75_2 : wr.cell? ⟨gb239, 2, none⟩ = some (u240002) := (blk_cell BK239.out 2).trans rfl
           have hcz75_3 : wr.cell? ⟨gb239, 3, none⟩ = some (.string ((⟨#[114, 117, 110, 32]⟩ : ByteArray) ++ t235)) := (blk_cell BK239.out 3).trans rfl
           have hcz75_4 : wr.cell? ⟨gb239, 4, none⟩ = some (.bool t236) := (blk_cell BK239.out 4).trans rfl
           have hfz75_0 := blk_frozen BK239.out 0
           have hfz75_1 := blk_frozen BK239.out 1
           have hfz75_2 := blk_frozen BK239.out 2
           have hfz75_3 := blk_frozen BK239.out 3
           have hfz75_4 := blk_frozen BK239.out 4
           obtain ⟨Ao77, co77, eo77⟩ := Kd.R_slice HO_240001.out
           subst eo77
           obtain ⟨Ao78, co78, eo78⟩ := Kd.R_slice HO_240002.out
           subst eo78
           go_wp2_with (first | ((with_reducible refine gate_builtin (b := .append) (xs := #[.tmp 76, .tmp 78]) rfl ?_); (try (refine gate_guard (by rfl) ?_; dsimp only)); at_builtin; refine Kd.S_append k55 w.heap.size rfl (.tmp 76) (.tmp 78) 25 55 (.agg #[(.string ⟨#[]⟩), (.slice none 0 0), (.slice none 0 0), (.string ⟨#[]⟩), (.bool false)]) 88 rfl Try.underlying25 info55 rfl (by decide) (by omega) u3 x3_1 (⟨(rdOf ByteArray.empty y225 x5_1), x240001_2, x240002_2, ((⟨#[114, 117, 110, 32]⟩ : ByteArray) ++ t235), t236⟩ : S55) [.string (rdOf ByteArray.empty y225 x5_1), .slice Ao77 x240001_2.length co77, .slice Ao78 x240002_2.length co78, .string ((⟨#[114, 117, 110, 32]⟩ : ByteArray) ++ t235), .bool t236] (fun k_ => some k_ ≠ (.slice (some ad231) y225.length co16 : Value).ownBlock ∧ k_ ≠ gb239) (fun k_ => some k_ = (.slice Ao77 x240001_2.length co77 : Value).ownBlock ∨ some k_ = (.slice Ao78 x240002_2.length co78 : Value).ownBlock) rfl rfl ?aP (fun k_ hk_ => hk_.elim (fun h_ => ((Kd.R_mono (ok' := fun k_ => ((fun k_ => some k_ ≠ (.slice (some ad231) y225.length co16 : Value).ownBlock ∧ k_ ≠ gb239)) k_ ∧ some k_ ≠ (u3 : Value).ownBlock) (Kd.R_types (Kd.R_apart' (HO_240001.out) (Kd.S_typed HO_3.out) (by decide)) BK239.out (by decide)) (fun k_ hk => ⟨⟨hk.1.1.1, hk.2⟩, hk.1.2⟩))).1 k_ h_.symm) (fun h_ => ((Kd.R_mono (ok' := fun k_ => ((fun k_ => some k_ ≠ (.slice (some ad231) y225.length co16 : Value).ownBlock ∧ k_ ≠ gb239)) k_ ∧ some k_ ≠ (u3 : Value).ownBlock) (Kd.R_types (Kd.R_apart' (HO_240002.out) (Kd.S_typed HO_3.out) (by decide)) BK239.out (by decide)) (fun k_ hk => ⟨⟨hk.1.1.1, hk.2⟩, hk.1.2⟩))).1 k_ h_.symm)) ?aF ?aO (Below.refl _ _) ?aS ?aL ?_; (case aP => exact k55_mkM _ _ _ (⟨(rdOf ByteArray.empty y225 x5_1), x240001_2, x240002_2, ((⟨#[114, 117, 110, 32]⟩ : ByteArray) ++ t235), t236⟩ : S55) (Kd.R_mono (Kd.R_tight rfl (Kd.R_mono (ok' := fun k_ => ((fun k_ => some k_ ≠ (.slice (some ad231) y225.length co16 : Value).ownBlock ∧ k_ ≠ gb239)) k_ ∧ some k_ ≠ (u3 : Value).ownBlock) (Kd.R_types (Kd.R_apart' (HO_240001.out) (Kd.S_typed HO_3.out) (by decide)) BK239.out (by decide)) (fun k_ hk => ⟨⟨hk.1.1.1, hk.2⟩, hk.1.2⟩))) (fun _ h_ => Or.inl h_)) (Kd.R_mono (Kd.R_tight rfl (Kd.R_mono (ok' := fun k_ => ((fun k_ => some k_ ≠ (.slice (some ad231) y225.length co16 : Value).ownBlock ∧ k_ ≠ gb239)) k_ ∧ some k_ ≠ (u3 : Value).ownBlock) (Kd.R_types (Kd.R_apart' (HO_240002.out) (Kd.S_typed HO_3.out) (by decide)) BK239.out (by decide)) (fun k_ hk => ⟨⟨hk.1.1.1, hk.2⟩, hk.1.2⟩))) (fun _ h_ => Or.inr (h_)))); (case aF => exact (fun k_ hk => ⟨Kd.fresh' (Kd.R_lt (zba5 HO_4.out)) k_ hk, Kd.freshB (g := gb239) (qK BK239.out) k_ hk⟩)); (case aO => exact (by (with_reducible repeat (first | apply Kd.S_alloc | apply Kd.S_drewN | apply Kd.S_drew)); exact Kd.S_mono HO_3.out (fun k_ hk => ⟨⟨hk.1, hk.2.2.2⟩, fun e_ => e_.elim (fun h_ => hk.2.1 h_) (fun h_ => hk.2.2.1 h_)⟩))); (case aS => exact (keep_size (w := w) (g := g) (row := none) zba11)); (case aL => have := LMc73.out; omega); intro v241 w76 ho hb hg hat; rw [← Ny240.out] at ho; replace HO_4 := Aside0.mk (Kd.R_over' (zba5 HO_4.out) (Kd.S_typed (zba3 HO_3.out)) (by decide) hg); replace BK239 := Aside0.mk (blk_grown (g := gb239) (qK BK239.out) hg (Kd.S_away HO_3.out (fun _ hk => hk.2.2.2))); replace HB := Aside0.mk (below_weaken zba12 HL.out hb); replace HI0 := Aside0.mk (IsS94.grown zba10 hg (IsS94.own_neS HI0.out HO_3.out (by decide))); replace HK := Aside0.mk (KeepBut.trans zba11 (KeepBut.of_grown hg g) (Kd.S_base2 HO_3.out)); have HO242 := Aside0.mk (ho); clear HO_3 HO_240001 HO_240002; clear ho hb hg hat))
           go_roundg k2
           case measure => have := HK1.out; have := HK2.out; omega
           case rel => exact ⟨(y240), (wrap64 (x5_1 + 1)), (x1001_2), (x1002_2), zba4, H', ⟨by have := HK1.out; have := HK2.out; omega⟩, ⟨by (with_reducible repeat (first | apply Kd.S_alloc | apply Kd.S_drewN | apply Kd.S_drew)); exact Kd.S_mono HO242.out (fun _ hk => hk.1)⟩, ⟨by (with_reducible repeat (first | apply Kd.R_alloc | apply Kd.R_drewN | apply Kd.R_drew)); exact Kd.R_mono HO_4.out (fun _ hk => trivial)⟩, ⟨zba10⟩, ⟨zba11⟩, ⟨zba12⟩⟩
          ·rw [if_neg c73] at H
           exact absurd H (by simp)
      ·rw [if_neg c14] at H
       exact absurd H (by simp)
     ·rw [if_neg c11] at H
      exact absurd H (by simp)
   ·rw [if_neg c6] at H
    have c6b0 : decide (x5_1 < (y225.length : Int)) = false := decide_eq_false c6
    clear c6
    have HC79 := Aside0.mk H
    clear H
    obtain ⟨Ao80, co80, eo80⟩ := Kd.R_slice HO_4.out
    subst eo80
    go_upto_region 16 with (fail)
    go_cut [86] (fun v86 wc => ∃ (kq : Nat) (x86_78 : Bool) (x1001_78 : Int) (x1002_78 : Int), v86 = .bool x86_78 ∧ Aside0 (spec_l18Draw.j4 kq x3_1 x86_78 s0_0 x1001_78 x1002_78 = some (r1, r2, r3)) ∧ Aside0 (kq ≤ k1) ∧ Aside0 (Kd.S k55 55 wc w.heap.size (fun _ => True) u3 x3_1) ∧ Aside0 (IsS94 w0 wc g s0_0 x1001_78 x1002_78) ∧ Aside0 (KeepBut w wc g none) ∧ Aside0 (Below w0.heap.size w0 wc))
    case first =>
     have H := HC79.out
     clear HC79
     replace H := Option.bind_eq_some_iff.mp H
     obtain ⟨⟨t267, t268, t269⟩, A810, H⟩ := H
     replace H : (if t267 = true then (spec_l18Draw.j4 k1 x3_1 (decide ((x3_1.length : Int) > 0)) s0_0 t268 t269) else (spec_l18Draw.j4 k1 x3_1 false s0_0 t268 t269)) = some (r1, r2, r3) := H
     have A81 := Aside0.mk A810
     clear A810
     by_cases c82 : t267 = true
     ·subst c82
      have H1 : (spec_l18Draw.j4 k1 x3_1 (decide ((x3_1.length : Int) > 0)) s0_0 t268 t269) = some (r1, r2, r3) := by rw [if_pos rfl] at H; exact H
      clear H
      have H := H1
      clear H1
      have H' := Aside0.mk H
      clear H
      go_wp2_with (first | ((with_reducible refine gate_callee (f := 73) rfl ?_); refine goesL_ (some 81) rfl rfl Try.func73 (by kernel_rfl) rfl #[.pointer (some ⟨g, 0, none⟩), .int .i64 14] rfl zba6 ?_; (with_reducible refine (spec_l1Once.calls g s0_0 x1001_1 x1002_1 14 true t268 t269 w0 _ ?side1 ?side2 A81.out).mono ?_); (case side1 => exact zba2); (case side2 => exact zba1); rintro e w83 ⟨rfl, hi, hb, hk⟩; refine ⟨_, rfl, ?_⟩; replace HO_3 := Aside0.mk (Kd.S_mono (Kd.S_keep (IsS94.apartS (show IsS94 w0 _ g s0_0 x1001_1 x1002_1 from zba2) (zba3 HO_3.out) (by decide)) hk (fun _ h => h.2)) (fun _ h => h.1)); replace HO_4 := Aside0.mk (Kd.R_mono (Kd.R_keep (IsS94.apart (show IsS94 w0 _ g s0_0 x1001_1 x1002_1 from zba2) (zba5 HO_4.out) (by decide)) hk (fun _ h => h.2)) (fun _ h => h.1)); replace HK := Aside0.mk (KeepBut.trans zba0 hk (.inl rfl)); replace HB := Aside0.mk (hb); replace HI0 := Aside0.mk (hi); (try clear hb); (try clear hb2); (try clear hk); (try clear hi); obtain ⟨Ao84, co84, eo84⟩ := Kd.S_slice HO_3.out; subst eo84))
      go_meet
      case rel => exact ⟨_, (decide ((x3_1.length : Int) > 0)), (t268), (t269), zba4, H', ⟨by have := HK1.out; first | omega | exact Nat.le_refl _⟩, ⟨zba24⟩, ⟨zba2⟩, ⟨zba0⟩, ⟨zba1⟩⟩
     ·replace c82 := Bool.eq_false_iff.mpr c82
      subst c82
      have H1 : (spec_l18Draw.j4 k1 x3_1 false s0_0 t268 t269) = some (r1, r2, r3) := by rw [if_neg (show ¬ (false = true) by decide)] at H; exact H
      clear H
      have H := H1
      clear H1
      have H' := Aside0.mk H
      clear H
      go_wp2_with (first | ((with_reducible refine gate_callee (f := 73) rfl ?_); refine goesL_ (some 81) rfl rfl Try.func73 (by kernel_rfl) rfl #[.pointer (some ⟨g, 0, none⟩), .int .i64 14] rfl zba6 ?_; (with_reducible refine (spec_l1Once.calls g s0_0 x1001_1 x1002_1 14 false t268 t269 w0 _ ?side1 ?side2 A81.out).mono ?_); (case side1 => exact zba2); (case side2 => exact zba1); rintro e w85 ⟨rfl, hi, hb, hk⟩; refine ⟨_, rfl, ?_⟩; replace HO_3 := Aside0.mk (Kd.S_mono (Kd.S_keep (IsS94.apartS (show IsS94 w0 _ g s0_0 x1001_1 x1002_1 from zba2) (zba3 HO_3.out) (by decide)) hk (fun _ h => h.2)) (fun _ h => h.1)); replace HO_4 := Aside0.mk (Kd.R_mono (Kd.R_keep (IsS94.apart (show IsS94 w0 _ g s0_0 x1001_1 x1002_1 from zba2) (zba5 HO_4.out) (by decide)) hk (fun _ h => h.2)) (fun _ h => h.1)); replace HK := Aside0.mk (KeepBut.trans zba0 hk (.inl rfl)); replace HB := Aside0.mk (hb); replace HI0 := Aside0.mk (hi); (try clear hb); (try clear hb2); (try clear hk); (try clear hi)))
      go_meet
      case rel => exact ⟨_, (false), (t268), (t269), zba4, H', ⟨by have := HK1.out; first | omega | exact Nat.le_refl _⟩, ⟨zba24⟩, ⟨zba2⟩, ⟨zba0⟩, ⟨zba1⟩⟩
    case rest =>
     clear HC79
     try clear c1
     try clear c2
     try clear p2
     try clear q2
     try clear hx2
     try clear c3
     try clear c4
     try clear c5
     try clear c6
     try clear c6b0
     try clear p6
     try clear c7
     try clear c8
     try clear c11
     try clear c14
     try clear p24
     try clear q24
     try clear hx24
     try clear p25
     try clear q25
     try clear hx25
     try clear p26
     try clear q26
     try clear hx26
     try clear c29
     try clear c29b0
     try clear c32
     try clear c33
     try clear c33b0
     try clear c40
     try clear c41
     try clear c41b0
     try clear c42
     try clear c42b0
     try clear c43
     try clear c49
     try clear c50
     try clear c50b0
     try clear c51
     try clear c51b0
     try clear c52
     try clear c52b0
     try clear c53
     try clear c60
     try clear c61
     try clear c61b0
     try clear c62
     try clear c62b0
     try clear c63
     try clear p64
     try clear c73
     try clear c74
     try clear c82
     try clear hcz75_0
     try clear hcz75_1
     try clear hcz75_2
     try clear hcz75_3
     try clear hcz75_4
     try clear hfz75_0
     try clear hfz75_1
     try clear hfz75_2
     try clear hfz75_3
     try clear hfz75_4
     try clear hx249_0
     try clear hx256_0
     try clear hx263_0
     try clear p2
     try clear p24
     try clear p249
     try clear p256
     try clear p263
     try clear q2
     try clear q24
     try clear q249
     try clear q256
     try clear q263
     obtain ⟨kq, x86_78, x1001_78, x1002_78, rfl, HA, HJ78, HO_3, HI0, HK, HB⟩ := hcut
     cases kq with
     | zero => exact absurd HA.out (by simp [spec_l18Draw.j4])
     | succ kj78 =>
      have H := HA.out
      clear HA
      simp only [spec_l18Draw.j4] at H
      by_cases c86 : x86_78 = true
      ·subst c86
       have H1 : ((spec_l1Below.f s0_0 x1001_78 x1002_78 (x3_1.length : Int)).bind fun bt270 => (if 0 ≤ bt270.1 then (if bt270.1 < (x3_1.length : Int) then ((spec_l1Below.f s0_0 bt270.2.1 bt270.2.2 4).bind fun bt274 => (if bt274.1 = 0 then (some ((x3_1.set (bt270.1 : Int).toNat (⟨(⟨#[97]⟩ : ByteArray), (rd_T55 x3_1 bt270.1).f1, (rd_T55 x3_1 bt270.1).f2, (rd_T55 x3_1 bt270.1).f3, (rd_T55 x3_1 bt270.1).f4⟩ : S55)), bt274.2.1, bt274.2.2)) else (if bt274.1 = 1 then (some ((x3_1.set (bt270.1 : Int).toNat (⟨(rd_T55 x3_1 bt270.1).f0, (([(⟨#[98]⟩ : ByteArray), (⟨#[97]⟩ : ByteArray)] : List ByteArray)), (rd_T55 x3_1 bt270.1).f2, (rd_T55 x3_1 bt270.1).f3, (rd_T55 x3_1 bt270.1).f4⟩ : S55)), bt274.2.1, bt274.2.2)) else (if bt274.1 = 2 then (some ((x3_1.set (bt270.1 : Int).toNat (⟨(rd_T55 x3_1 bt270.1).f0, (rd_T55 x3_1 bt270.1).f1, (([(⟨#[]⟩ : ByteArray)] : List ByteArray)), (rd_T55 x3_1 bt270.1).f3, (rd_T55 x3_1 bt270.1).f4⟩ : S55)), bt274.2.1, bt274.2.2)) else (if bt274.1 = 3 then ((spec_l1Below.f s0_0 bt274.2.1 bt274.2.2 2).bind fun bt286 => (if 0 ≤ (wrap64 (4000 + bt286.1)) then (if (wrap64 (4000 + bt286.1) : Int).toNat ≤ 281474976710656 then (some ((x3_1.set (bt270.1 : Int).toNat (⟨(rd_T55 x3_1 bt270.1).f0, (rd_T55 x3_1 bt270.1).f1, (rd_T55 x3_1 bt270.1).f2, strOfNums (List.replicate (wrap64 (4000 + bt286.1) : Int).toNat 0), (rd_T55 x3_1 bt270.1).f4⟩ : S55)), bt286.2.1, bt286.2.2)) else (none)) else (none))) else (some (x3_1, bt274.2.1, bt274.2.2))))))) else (none)) else (none))) = some (r1, r2, r3) := by rw [if_pos rfl] at H; exact H
       clear H
       have H := H1
       clear H1
       replace H := Option.bind_eq_some_iff.mp H
       obtain ⟨⟨t270, t271, t272⟩, A870, H⟩ := H
       replace H : (if 0 ≤ t270 then (if t270 < (x3_1.length : Int) then ((spec_l1Below.f s0_0 t271 t272 4).bind fun bt274 => (if bt274.1 = 0 then (some ((x3_1.set (t270 : Int).toNat (⟨(⟨#[97]⟩ : ByteArray), (rd_T55 x3_1 t270).f1, (rd_T55 x3_1 t270).f2, (rd_T55 x3_1 t270).f3, (rd_T55 x3_1 t270).f4⟩ : S55)), bt274.2.1, bt274.2.2)) else (if bt274.1 = 1 then (some ((x3_1.set (t270 : Int).toNat (⟨(rd_T55 x3_1 t270).f0, (([(⟨#[98]⟩ : ByteArray), (⟨#[97]⟩ : ByteArray)] : List ByteArray)), (rd_T55 x3_1 t270).f2, (rd_T55 x3_1 t270).f3, (rd_T55 x3_1 t270).f4⟩ : S55)), bt274.2.1, bt274.2.2)) else (if bt274.1 = 2 then (some ((x3_1.set (t270 : Int).toNat (⟨(rd_T55 x3_1 t270).f0, (rd_T55 x3_1 t270).f1, (([(⟨#[]⟩ : ByteArray)] : List ByteArray)), (rd_T55 x3_1 t270).f3, (rd_T55 x3_1 t270).f4⟩ : S55)), bt274.2.1, bt274.2.2)) else (if bt274.1 = 3 then ((spec_l1Below.f s0_0 bt274.2.1 bt274.2.2 2).bind fun bt286 => (if 0 ≤ (wrap64 (4000 + bt286.1)) then (if (wrap64 (4000 + bt286.1) : Int).toNat ≤ 281474976710656 then (some ((x3_1.set (t270 : Int).toNat (⟨(rd_T55 x3_1 t270).f0, (rd_T55 x3_1 t270).f1, (rd_T55 x3_1 t270).f2, strOfNums (List.replicate (wrap64 (4000 + bt286.1) : Int).toNat 0), (rd_T55 x3_1 t270).f4⟩ : S55)), bt286.2.1, bt286.2.2)) else (none)) else (none))) else (some (x3_1, bt274.2.1, bt274.2.2))))))) else (none)) else (none)) = some (r1, r2, r3) := H
       have A87 := Aside0.mk A870
       clear A870
       by_cases c88 : 0 ≤ t270
       ·rw [if_pos c88] at H
        have c88b0 : decide (0 ≤ t270) = true := decide_eq_true c88
        clear c88
        by_cases c89 : t270 < (x3_1.length : Int)
        ·rw [if_pos c89] at H
         have c89b0 : decide (t270 < (x3_1.length : Int)) = true := decide_eq_true c89
         clear c89
         replace H := Option.bind_eq_some_iff.mp H
         obtain ⟨⟨t274, t275, t276⟩, A900, H⟩ := H
         replace H : (if t274 = 0 then (some ((x3_1.set (t270 : Int).toNat (⟨(⟨#[97]⟩ : ByteArray), (rd_T55 x3_1 t270).f1, (rd_T55 x3_1 t270).f2, (rd_T55 x3_1 t270).f3, (rd_T55 x3_1 t270).f4⟩ : S55)), t275, t276)) else (if t274 = 1 then (some ((x3_1.set (t270 : Int).toNat (⟨(rd_T55 x3_1 t270).f0, (([(⟨#[98]⟩ : ByteArray), (⟨#[97]⟩ : ByteArray)] : List ByteArray)), (rd_T55 x3_1 t270).f2, (rd_T55 x3_1 t270).f3, (rd_T55 x3_1 t270).f4⟩ : S55)), t275, t276)) else (if t274 = 2 then (some ((x3_1.set (t270 : Int).toNat (⟨(rd_T55 x3_1 t270).f0, (rd_T55 x3_1 t270).f1, (([(⟨#[]⟩ : ByteArray)] : List ByteArray)), (rd_T55 x3_1 t270).f3, (rd_T55 x3_1 t270).f4⟩ : S55)), t275, t276)) else (if t274 = 3 then ((spec_l1Below.f s0_0 t275 t276 2).bind fun bt286 => (if 0 ≤ (wrap64 (4000 + bt286.1)) then (if (wrap64 (4000 + bt286.1) : Int).toNat ≤ 281474976710656 then (some ((x3_1.set (t270 : Int).toNat (⟨(rd_T55 x3_1 t270).f0, (rd_T55 x3_1 t270).f1, (rd_T55 x3_1 t270).f2, strOfNums (List.replicate (wrap64 (4000 + bt286.1) : Int).toNat 0), (rd_T55 x3_1 t270).f4⟩ : S55)), bt286.2.1, bt286.2.2)) else (none)) else (none))) else (some (x3_1, t275, t276)))))) = some (r1, r2, r3) := H
         have A90 := Aside0.mk A900
         clear A900
         by_cases c91 : t274 = 0
         ·rw [if_pos c91] at H
          have c91b0 : (t274 == 0) = true := beq_iff_eq.mpr c91
          have c91b1 : (t274 != 0) = false := bne_eq_false_iff_eq.mpr c91
          clear c91
          obtain ⟨y277, hy277⟩ : ∃ y_ : List (S55), y_ = (x3_1.set (t270 : Int).toNat (⟨(⟨#[97]⟩ : ByteArray), (rd_T55 x3_1 t270).f1, (rd_T55 x3_1 t270).f2, (rd_T55 x3_1 t270).f3, (rd_T55 x3_1 t270).f4⟩ : S55)) := ⟨_, rfl⟩
          replace H : (some (y277, t275, t276)) = some (r1, r2, r3) := by first | (rw [hy277]; with_reducible exact H) | (have H2_ := (Option.bind_some _ _).symm.trans H; rw [hy277]; with_reducible exact H2_) | (have H2_ := (Option.bind_some _ _).symm.trans H; with_reducible exact H2_) | with_reducible exact H | (rw [hy277]; exact H) | exact H
          have Ny277 := Aside0.mk hy277
          clear hy277
          simp only [Option.some.injEq, Prod.mk.injEq] at H
          obtain ⟨rfl, rfl, rfl⟩ := H
          obtain ⟨Ao93, co93, eo93⟩ := Kd.S_slice HO_3.out
          subst eo93
          go_wp2_with (first | ((with_reducible refine gate_callee (f := 74) rfl ?_); refine goesL_ (some 91) rfl rfl Try.func74 (by kernel_rfl) rfl #[.pointer (some ⟨g, 0, none⟩), .int .i64 (x3_1.length : Int)] rfl zba6 ?_; (with_reducible refine (spec_l1Below.calls g s0_0 x1001_78 x1002_78 (x3_1.length : Int) t270 t271 t272 w0 _ ?side1 ?side2 A87.out).mono ?_); (case side1 => exact zba2); (case side2 => exact zba1); rintro e w94 ⟨rfl, hi, hb, hk⟩; refine ⟨_, rfl, ?_⟩; replace HO_3 := Aside0.mk (Kd.S_mono (Kd.S_keep (IsS94.apartS (show IsS94 w0 _ g s0_0 x1001_78 x1002_78 from zba2) (zba3 HO_3.out) (by decide)) hk (fun _ h => h.2)) (fun _ h => h.1)); replace HK := Aside0.mk (KeepBut.trans zba0 hk (.inl rfl)); replace HB := Aside0.mk (hb); replace HI0 := Aside0.mk (hi); (try clear hb); (try clear hb2); (try clear hk); (try clear hi); have p273 : 0 ≤ (t270 : Int) := of_decide_eq_true zba7; have q273 : t270 < (x3_1.length : Int) := of_decide_eq_true zba7; obtain ⟨ad273, A273_1, c273_1, A273_2, c273_2, e273, hx273_0, hx273_1, hx273_2, hx273_3, hx273_4, hl273_1, hi273_1, hl273_2, hi273_2⟩ := at_T55 (Kd.S_reads' HO_3.out).2.2 t270 p273 q273; cases e273; obtain ⟨ce273, hce273, hMe273, hcc273⟩ := Kd.S_get HO_3.out z55 t270 p273 zba25; obtain ⟨ve273_1, ve273_2, rfl, ge273_1, ge273_2⟩ := k55_openM hMe273; have hv273_1 := hcc273 1 _ rfl; rw [add_field _ _ 1 (by omega)] at hv273_1; replace hv273_1 := Option.some.inj (hv273_1.symm.trans hx273_1); rw [hv273_1] at ge273_1; have HL273_1 := Aside0.mk (show Kd.R Kd.string 9 _ _ _ _ ((rd_T55 x3_1 t270).f1) from ge273_1); clear hv273_1 ge273_1; have hv273_2 := hcc273 2 _ rfl; rw [add_field _ _ 2 (by omega)] at hv273_2; replace hv273_2 := Option.some.inj (hv273_2.symm.trans hx273_2); rw [hv273_2] at ge273_2; have HL273_2 := Aside0.mk (show Kd.R Kd.string 9 _ _ _ _ ((rd_T55 x3_1 t270).f2) from ge273_2); clear hv273_2 ge273_2; clear hcc273 hce273; have HR273_1 := Aside0.mk hi273_1; have HC273_1 := Aside0.mk hl273_1; clear hi273_1 hl273_1; have HR273_2 := Aside0.mk hi273_2; have HC273_2 := Aside0.mk hl273_2; clear hi273_2 hl273_2; replace p273 := eq_true p273; replace q273 := eq_true q273) | ((with_reducible refine gate_callee (f := 74) rfl ?_); refine goesL_ (some 94) rfl rfl Try.func74 (by kernel_rfl) rfl #[.pointer (some ⟨g, 0, none⟩), .int .i64 4] rfl zba6 ?_; (with_reducible refine (spec_l1Below.calls g s0_0 t271 t272 4 t274 t275 t276 w0 _ ?side1 ?side2 A90.out).mono ?_); (case side1 => exact zba2); (case side2 => exact zba1); rintro e w95 ⟨rfl, hi, hb, hk⟩; refine ⟨_, rfl, ?_⟩; replace HO_3 := Aside0.mk (Kd.S_mono (Kd.S_keep (IsS94.apartS (show IsS94 w0 _ g s0_0 t271 t272 from zba2) (zba3 HO_3.out) (by decide)) hk (fun _ h => h.2)) (fun _ h => h.1)); replace HL273_1 := Aside0.mk (Kd.R_mono (Kd.R_keep (IsS94.apart (show IsS94 w0 _ g s0_0 t271 t272 from zba2) (zba5 HL273_1.out) (by decide)) hk (fun _ h => h.2)) (fun _ h => h.1)); replace HL273_2 := Aside0.mk (Kd.R_mono (Kd.R_keep (IsS94.apart (show IsS94 w0 _ g s0_0 t271 t272 from zba2) (zba5 HL273_2.out) (by decide)) hk (fun _ h => h.2)) (fun _ h => h.1)); replace HK := Aside0.mk (KeepBut.trans zba0 hk (.inl rfl)); replace HB := Aside0.mk (hb); replace HI0 := Aside0.mk (hi); (try clear hb); (try clear hb2); (try clear hk); (try clear hi); have p92 : 0 ≤ (t270 : Int) := of_decide_eq_true zba7; have q92 : (t270 : Int) < ((x3_1.length : Int) : Int) := of_decide_eq_true zba7; obtain ⟨go92, co92, eo92, gb92, gl92, cl92, HG92⟩ := Kd.S_form HO_3.out (by omega); (first | cases eo92 | (injection eo92 with ea_ en_ ec_; (first | subst ea_ | (injection ea_ with ea_; subst ea_)); subst ec_; clear en_)); have GB92 := Aside0.mk gb92; have GG92 := Aside0.mk HG92; clear gb92 gl92 HG92; (first | simp only [add_plain] at hx273_0 | skip); (first | simp only [add_plain] at hx273_1 | skip); (first | simp only [add_plain] at hx273_2 | skip); (first | simp only [add_plain] at hx273_3 | skip); (first | simp only [add_plain] at hx273_4 | skip); obtain ⟨_, ce92, hcl92, hM92, hcc92, hfr92, _, _⟩ := Kd.S_elem HO_3.out z55 (t270 : Int) p92 q92; obtain ⟨ve92_1, ve92_2, rfl, ge92_1, ge92_2⟩ := k55_openM hM92; have hx92_0 : w95.cell? ⟨go92, (t270 : Int).toNat * 5, none⟩ = some (.string ((rd_T55 x3_1 t270).f0)) := hcc92 0 _ rfl; have hx92_1 : w95.cell? ⟨go92, (t270 : Int).toNat * 5 + 1, none⟩ = some (ve92_1) := hcc92 1 _ rfl; have hx92_2 : w95.cell? ⟨go92, (t270 : Int).toNat * 5 + 2, none⟩ = some (ve92_2) := hcc92 2 _ rfl; have hx92_3 : w95.cell? ⟨go92, (t270 : Int).toNat * 5 + 3, none⟩ = some (.string ((rd_T55 x3_1 t270).f3)) := hcc92 3 _ rfl; have hx92_4 : w95.cell? ⟨go92, (t270 : Int).toNat * 5 + 4, none⟩ = some (.bool ((rd_T55 x3_1 t270).f4)) := hcc92 4 _ rfl; have hf92_0 : w95.frozen? ⟨go92, (t270 : Int).toNat * 5, none⟩ = false := hfr92 0; have hf92_1 : w95.frozen? ⟨go92, (t270 : Int).toNat * 5 + 1, none⟩ = false := hfr92 1; have hf92_2 : w95.frozen? ⟨go92, (t270 : Int).toNat * 5 + 2, none⟩ = false := hfr92 2; have hf92_3 : w95.frozen? ⟨go92, (t270 : Int).toNat * 5 + 3, none⟩ = false := hfr92 3; have hf92_4 : w95.frozen? ⟨go92, (t270 : Int).toNat * 5 + 4, none⟩ = false := hfr92 4; clear hcl92 hcc92 hfr92 hM92; replace p92 := eq_true p92; replace q92 := eq_true q92; have HX96 := Aside0.mk (show Kd.S k55 55 w95 w.heap.size (fun k_ => ((fun _ => True)) k_ ∧ ¬ ((fun _ => False)) k_) (.slice (some ⟨go92, 0, none⟩) x3_1.length co93) x3_1 from zba26); obtain ⟨oki96, ce96, hcl96, hM96, hcc96, hfr96, hoki96, hH96⟩ := Kd.S_elem HX96.out z55 (t270 : Int) (of_decide_eq_true zba7) zba27; obtain ⟨ve96_1, ve96_2, rfl, ge96_1, ge96_2⟩ := k55_openM hM96; have HP96 := Kd.S_seg hH96 (of_decide_eq_true zba7) zba27 (seg := [.string (⟨#[97]⟩ : ByteArray)]) (j := 0) (show 1 ≤ 5 from by decide) (x' := (⟨(⟨#[97]⟩ : ByteArray), (rd_T55 x3_1 t270).f1, (rd_T55 x3_1 t270).f2, (rd_T55 x3_1 t270).f3, (rd_T55 x3_1 t270).f4⟩ : S55)) (k55_mkM _ _ _ (⟨(⟨#[97]⟩ : ByteArray), (rd_T55 x3_1 t270).f1, (rd_T55 x3_1 t270).f2, (rd_T55 x3_1 t270).f3, (rd_T55 x3_1 t270).f4⟩ : S55) (Kd.R_mono ge96_1 (fun _ h_ => Or.inl h_)) (Kd.R_mono ge96_2 (fun _ h_ => Or.inl h_))) (fun _ hk => hk) (fun k_ hk_ => hk_.elim); have hx96_0 := hcc96 0 _ rfl; (try simp only [show (k55).sz = 5 from rfl, Nat.mul_one, Nat.add_zero] at hx96_0); have hf96_0 := hfr96 0; (try simp only [show (k55).sz = 5 from rfl, Nat.mul_one, Nat.add_zero] at hf96_0); clear hcl96 hcc96 hfr96 hM96 hoki96 hH96) | ((with_reducible refine gate_store (t := 9) (p := 99) rfl ?_); refine store_event (t := 9) (p := 99) (v := ?vo_w97) (w1 := (w95.setCell ⟨go92, (t270 : Int).toNat * 5, none⟩ (.string (⟨#[97]⟩ : ByteArray)))) ?hg ?ho ?hn ?hr ?_; (case ho => rfl); (case hg => rfl); (case hn => rfl); (case hr => first | (go_simp; done) | (go_simp; rfl)); intro w97 hw; have hg : w95.grownBy w97 (some go92) := (by rw [hw]; exact HP96.2); have hp_ : Kd.S k55 55 w97 w.heap.size (fun _ => True) (.slice (some ⟨go92, 0, none⟩) x3_1.length co93) y277 := (by rw [hw, Ny277.out]; exact HP96.1); clear HP96; replace HI0 := Aside0.mk (IsS94.grown zba2 hg (IsS94.own_neS HI0.out HO_3.out (by decide))); replace HL273_1 := Aside0.mk (Kd.R_after (v := (.slice (some ⟨go92, 0, none⟩) x3_1.length co93)) (v1 := (.slice (some ⟨go92, 0, none⟩) x3_1.length co93)) (ok := (fun _ => True)) (zba5 HL273_1.out) hg (.inl rfl)); replace HL273_2 := Aside0.mk (Kd.R_after (v := (.slice (some ⟨go92, 0, none⟩) x3_1.length co93)) (v1 := (.slice (some ⟨go92, 0, none⟩) x3_1.length co93)) (ok := (fun _ => True)) (zba5 HL273_2.out) hg (.inl rfl)); replace HB := Aside0.mk ((by rw [hw]; exact below_set (HB.out) (Nat.le_trans HL.out GB92.out) : Below w0.heap.size w0 w97)); replace HK := Aside0.mk (KeepBut.trans zba0 (KeepBut.of_grown hg g) (Kd.S_base2 HO_3.out)); replace HO_3 := Aside0.mk (hp_); clear hg hw hp_))
          go_ret
          exact ⟨_, zba28, zba3 HO_3.out, zba2, zba1, zba0⟩
         ·rw [if_neg c91] at H
          have c91b0 : (t274 == 0) = false := beq_eq_false_iff_ne.mpr c91
          have c91b1 : (t274 != 0) = true := bne_iff_ne.mpr c91
          by_cases c98 : t274 = 1
          ·rw [if_pos c98] at H
           have c98b0 : (t274 == 1) = true := beq_iff_eq.mpr c98
           have c98b1 : (t274 != 1) = false := bne_eq_false_iff_eq.mpr c98
           clear c98
           obtain ⟨y278, hy278⟩ : ∃ y_ : List ByteArray, y_ = (([(⟨#[98]⟩ : ByteArray), (⟨#[97]⟩ : ByteArray)] : List ByteArray)) := ⟨_, rfl⟩
           replace H : (some ((x3_1.set (t270 : Int).toNat (⟨(rd_T55 x3_1 t270).f0, y278, (rd_T55 x3_1 t270).f2, (rd_T55 x3_1 t270).f3, (rd_T55 x3_1 t270).f4⟩ : S55)), t275, t276)) = some (r1, r2, r3) := by first | (rw [hy278]; with_reducible exact H) | (have H2_ := (Option.bind_some _ _).symm.trans H; rw [hy278]; with_reducible exact H2_) | (have H2_ := (Option.bind_some _ _).symm.trans H; with_reducible exact H2_) | with_reducible exact H | (rw [hy278]; exact H) | exact H
           have Ny278 := Aside0.mk hy278
           clear hy278
           obtain ⟨y281, hy281⟩ : ∃ y_ : List (S55), y_ = (x3_1.set (t270 : Int).toNat (⟨(rd_T55 x3_1 t270).f0, y278, (rd_T55 x3_1 t270).f2, (rd_T55 x3_1 t270).f3, (rd_T55 x3_1 t270).f4⟩ : S55)) := ⟨_, rfl⟩
           replace H : (some (y281, t275, t276)) = some (r1, r2, r3) := by first | (rw [hy281]; with_reducible exact H) | (have H2_ := (Option.bind_some _ _).symm.trans H; rw [hy281]; with_reducible exact H2_) | (have H2_ := (Option.bind_some _ _).symm.trans H; with_reducible exact H2_) | with_reducible exact H | (rw [hy281]; exact H) | exact H
           have Ny281 := Aside0.mk hy281
           clear hy281
           simp only [Option.some.injEq, Prod.mk.injEq] at H
           obtain ⟨rfl, rfl, rfl⟩ := H
           obtain ⟨Ao100, co100, eo100⟩ := Kd.S_slice HO_3.out
           subst eo100
           go_wp2_with (first | ((with_reducible refine gate_callee (f := 74) rfl ?_); refine goesL_ (some 91) rfl rfl Try.func74 (by kernel_rfl) rfl #[.pointer (some ⟨g, 0, none⟩), .int .i64 (x3_1.length : Int)] rfl zba6 ?_; (with_reducible refine (spec_l1Below.calls g s0_0 x1001_78 x1002_78 (x3_1.length : Int) t270 t271 t272 w0 _ ?side1 ?side2 A87.out).mono ?_); (case side1 => exact zba2); (case side2 => exact zba1); rintro e w101 ⟨rfl, hi, hb, hk⟩; refine ⟨_, rfl, ?_⟩; replace HO_3 := Aside0.mk (Kd.S_mono (Kd.S_keep (IsS94.apartS (show IsS94 w0 _ g s0_0 x1001_78 x1002_78 from zba2) (zba3 HO_3.out) (by decide)) hk (fun _ h => h.2)) (fun _ h => h.1)); replace HK := Aside0.mk (KeepBut.trans zba0 hk (.inl rfl)); replace HB := Aside0.mk (hb); replace HI0 := Aside0.mk (hi); (try clear hb); (try clear hb2); (try clear hk); (try clear hi); have p273 : 0 ≤ (t270 : Int) := of_decide_eq_true zba7; have q273 : t270 < (x3_1.length : Int) := of_decide_eq_true zba7; obtain ⟨ad273, A273_1, c273_1, A273_2, c273_2, e273, hx273_0, hx273_1, hx273_2, hx273_3, hx273_4, hl273_1, hi273_1, hl273_2, hi273_2⟩ := at_T55 (Kd.S_reads' HO_3.out).2.2 t270 p273 q273; cases e273; obtain ⟨ce273, hce273, hMe273, hcc273⟩ := Kd.S_get HO_3.out z55 t270 p273 zba25; obtain ⟨ve273_1, ve273_2, rfl, ge273_1, ge273_2⟩ := k55_openM hMe273; have hv273_1 := hcc273 1 _ rfl; rw [add_field _ _ 1 (by omega)] at hv273_1; replace hv273_1 := Option.some.inj (hv273_1.symm.trans hx273_1); rw [hv273_1] at ge273_1; have HL273_1 := Aside0.mk (show Kd.R Kd.string 9 _ _ _ _ ((rd_T55 x3_1 t270).f1) from ge273_1); clear hv273_1 ge273_1; have hv273_2 := hcc273 2 _ rfl; rw [add_field _ _ 2 (by omega)] at hv273_2; replace hv273_2 := Option.some.inj (hv273_2.symm.trans hx273_2); rw [hv273_2] at ge273_2; have HL273_2 := Aside0.mk (show Kd.R Kd.string 9 _ _ _ _ ((rd_T55 x3_1 t270).f2) from ge273_2); clear hv273_2 ge273_2; clear hcc273 hce273; have HR273_1 := Aside0.mk hi273_1; have HC273_1 := Aside0.mk hl273_1; clear hi273_1 hl273_1; have HR273_2 := Aside0.mk hi273_2; have HC273_2 := Aside0.mk hl273_2; clear hi273_2 hl273_2; replace p273 := eq_true p273; replace q273 := eq_true q273) | ((with_reducible refine gate_callee (f := 74) rfl ?_); refine goesL_ (some 94) rfl rfl Try.func74 (by kernel_rfl) rfl #[.pointer (some ⟨g, 0, none⟩), .int .i64 4] rfl zba6 ?_; (with_reducible refine (spec_l1Below.calls g s0_0 t271 t272 4 t274 t275 t276 w0 _ ?side1 ?side2 A90.out).mono ?_); (case side1 => exact zba2); (case side2 => exact zba1); rintro e w102 ⟨rfl, hi, hb, hk⟩; refine ⟨_, rfl, ?_⟩; replace HO_3 := Aside0.mk (Kd.S_mono (Kd.S_keep (IsS94.apartS (show IsS94 w0 _ g s0_0 t271 t272 from zba2) (zba3 HO_3.out) (by decide)) hk (fun _ h => h.2)) (fun _ h => h.1)); replace HL273_1 := Aside0.mk (Kd.R_mono (Kd.R_keep (IsS94.apart (show IsS94 w0 _ g s0_0 t271 t272 from zba2) (zba5 HL273_1.out) (by decide)) hk (fun _ h => h.2)) (fun _ h => h.1)); replace HL273_2 := Aside0.mk (Kd.R_mono (Kd.R_keep (IsS94.apart (show IsS94 w0 _ g s0_0 t271 t272 from zba2) (zba5 HL273_2.out) (by decide)) hk (fun _ h => h.2)) (fun _ h => h.1)); replace HK := Aside0.mk (KeepBut.trans zba0 hk (.inl rfl)); replace HB := Aside0.mk (hb); replace HI0 := Aside0.mk (hi); (try clear hb); (try clear hb2); (try clear hk); (try clear hi)) | ((with_reducible refine gate_dst (N := 103) rfl ?_); (try (refine gate_guard (by rfl) ?_; dsimp only)); refine Kd.R_lit Kd.string _ 9 ?hg (N := 103) ?hd (xs := ([(⟨#[98]⟩ : ByteArray), (⟨#[97]⟩ : ByteArray)] : List ByteArray)) (inner := [.string (⟨#[98]⟩ : ByteArray), .string (⟨#[97]⟩ : ByteArray)]) (ok := fun _ => True) (okp := fun _ => True) ?hr ?hp (fun _ hk => hk) trivial (Below.refl _ _) (Nat.le_refl _) (by simp) ?_; (case hd => rfl); (case hg => rfl); (case hr => first | (go_simp; done) | (go_simp; rfl) | (obtain ⟨_, _, e_⟩ := Kd.R_slice HO280.out; subst e_; first | (go_simp; done) | (go_simp; rfl))); (case hp => exact (Reps.one (show Kd.M Kd.string _ _ _ (⟨#[98]⟩ : ByteArray) [.string (⟨#[98]⟩ : ByteArray)] from rfl) (Reps.one (show Kd.M Kd.string _ _ _ (⟨#[97]⟩ : ByteArray) [.string (⟨#[97]⟩ : ByteArray)] from rfl) (Reps.none _ _)))); intro v279 w103 ho104 hb hg_ hnew_; clear hg_ hnew_; (first | rw [← Ny278.out] at ho104 | (simp only [Int.reduceToNat] at ho104; rw [← Ny278.out] at ho104)); replace HO_3 := Aside0.mk (Kd.S_elder' (zba3 HO_3.out) (Kd.R_base ho104) hb); have HO280 := Aside0.mk (Kd.R_lower (Kd.R_new' (Kd.R_new' ho104 (Kd.R_lt (zba5 HL273_1.out))) (Kd.R_lt (zba5 HL273_2.out))) (keep_size (w := w) (g := g) (row := none) zba0)); replace HL273_1 := Aside0.mk (Kd.R_elder' (zba5 HL273_1.out) (Kd.R_base ho104) hb); replace HL273_2 := Aside0.mk (Kd.R_elder' (zba5 HL273_2.out) (Kd.R_base ho104) hb); replace HK := Aside0.mk (KeepBut.trans zba0 (KeepBut.of_below hb g none) (.inl rfl)); replace HB := Aside0.mk (below_step zba1 hb); replace HI0 := Aside0.mk (IsS94.below zba2 hb); clear hb ho104; have p99 : 0 ≤ (t270 : Int) := of_decide_eq_true zba7; have q99 : (t270 : Int) < ((x3_1.length : Int) : Int) := of_decide_eq_true zba7; obtain ⟨go99, co99, eo99, gb99, gl99, cl99, HG99⟩ := Kd.S_form HO_3.out (by omega); (first | cases eo99 | (injection eo99 with ea_ en_ ec_; (first | subst ea_ | (injection ea_ with ea_; subst ea_)); subst ec_; clear en_)); have GB99 := Aside0.mk gb99; have GG99 := Aside0.mk HG99; clear gb99 gl99 HG99; (first | simp only [add_plain] at hx273_0 | skip); (first | simp only [add_plain] at hx273_1 | skip); (first | simp only [add_plain] at hx273_2 | skip); (first | simp only [add_plain] at hx273_3 | skip); (first | simp only [add_plain] at hx273_4 | skip); obtain ⟨_, ce99, hcl99, hM99, hcc99, hfr99, _, _⟩ := Kd.S_elem HO_3.out z55 (t270 : Int) p99 q99; obtain ⟨ve99_1, ve99_2, rfl, ge99_1, ge99_2⟩ := k55_openM hM99; have hx99_0 : w103.cell? ⟨go99, (t270 : Int).toNat * 5, none⟩ = some (.string ((rd_T55 x3_1 t270).f0)) := hcc99 0 _ rfl; have hx99_1 : w103.cell? ⟨go99, (t270 : Int).toNat * 5 + 1, none⟩ = some (ve99_1) := hcc99 1 _ rfl; have hx99_2 : w103.cell? ⟨go99, (t270 : Int).toNat * 5 + 2, none⟩ = some (ve99_2) := hcc99 2 _ rfl; have hx99_3 : w103.cell? ⟨go99, (t270 : Int).toNat * 5 + 3, none⟩ = some (.string ((rd_T55 x3_1 t270).f3)) := hcc99 3 _ rfl; have hx99_4 : w103.cell? ⟨go99, (t270 : Int).toNat * 5 + 4, none⟩ = some (.bool ((rd_T55 x3_1 t270).f4)) := hcc99 4 _ rfl; have hf99_0 : w103.frozen? ⟨go99, (t270 : Int).toNat * 5, none⟩ = false := hfr99 0; have hf99_1 : w103.frozen? ⟨go99, (t270 : Int).toNat * 5 + 1, none⟩ = false := hfr99 1; have hf99_2 : w103.frozen? ⟨go99, (t270 : Int).toNat * 5 + 2, none⟩ = false := hfr99 2; have hf99_3 : w103.frozen? ⟨go99, (t270 : Int).toNat * 5 + 3, none⟩ = false := hfr99 3; have hf99_4 : w103.frozen? ⟨go99, (t270 : Int).toNat * 5 + 4, none⟩ = false := hfr99 4; clear hcl99 hcc99 hfr99 hM99; replace p99 := eq_true p99; replace q99 := eq_true q99; have n_ := Aside0.mk (Kd.S_mono (ok' := (fun k_ => some k_ ≠ (v279 : Value).ownBlock)) HO_3.out (fun k_ hk => hk.2)); clear HO_3; have HO_3 := n_; clear n_; have HX105 := Aside0.mk (show Kd.S k55 55 w103 w.heap.size (fun k_ => ((fun _ => True)) k_ ∧ ¬ ((fun k_ => some k_ = (v279 : Value).ownBlock)) k_) (.slice (some ⟨go99, 0, none⟩) x3_1.length co100) x3_1 from zba29); obtain ⟨oki105, ce105, hcl105, hM105, hcc105, hfr105, hoki105, hH105⟩ := Kd.S_elem HX105.out z55 (t270 : Int) (of_decide_eq_true zba7) zba27; obtain ⟨ve105_1, ve105_2, rfl, ge105_1, ge105_2⟩ := k55_openM hM105; have HP105 := Kd.S_seg hH105 (of_decide_eq_true zba7) zba27 (seg := [v279]) (j := 1) (show 2 ≤ 5 from by decide) (x' := (⟨(rd_T55 x3_1 t270).f0, y278, (rd_T55 x3_1 t270).f2, (rd_T55 x3_1 t270).f3, (rd_T55 x3_1 t270).f4⟩ : S55)) (k55_mkM _ _ _ (⟨(rd_T55 x3_1 t270).f0, y278, (rd_T55 x3_1 t270).f2, (rd_T55 x3_1 t270).f3, (rd_T55 x3_1 t270).f4⟩ : S55) (Kd.R_mono (Kd.R_tight rfl (Kd.R_mono (ok' := fun k_ => ((fun _ => True)) k_ ∧ k_ ≠ go99) (Kd.R_apart' (HO280.out) (Kd.S_typed HO_3.out) (by decide)) (fun k_ hk => ⟨trivial, fun e_ => (hk.2) (by rw [e_]; rfl)⟩))) (fun _ h_ => Or.inr (h_))) (Kd.R_mono ge105_2 (fun _ h_ => Or.inl h_))) (fun _ hk => hk) (fun k_ hk_ => ((Kd.R_mono (ok' := fun k_ => ((fun _ => True)) k_ ∧ k_ ≠ go99) (Kd.R_apart' (HO280.out) (Kd.S_typed HO_3.out) (by decide)) (fun k_ hk => ⟨trivial, fun e_ => (hk.2) (by rw [e_]; rfl)⟩))).1 k_ hk_.symm); have hx105_1 := hcc105 1 _ rfl; (try simp only [show (k55).sz = 5 from rfl, Nat.mul_one, Nat.add_zero] at hx105_1); have hf105_1 := hfr105 1; (try simp only [show (k55).sz = 5 from rfl, Nat.mul_one, Nat.add_zero] at hf105_1); clear hcl105 hcc105 hfr105 hM105 hoki105 hH105) | ((with_reducible refine gate_store (t := 29) (p := 105) rfl ?_); refine store_event (t := 29) (p := 105) (v := ?vo_w106) (w1 := (w103.setCell ⟨go99, (t270 : Int).toNat * 5 + 1, none⟩ (v279))) ?hg ?ho ?hn ?hr ?_; (case ho => rfl); (case hg => rfl); (case hn => rfl); (case hr => first | (go_simp; done) | (go_simp; rfl) | (obtain ⟨_, _, e_⟩ := Kd.R_slice HO280.out; subst e_; first | (go_simp; done) | (go_simp; rfl))); intro w106 hw; have hg : w103.grownBy w106 (some go99) := (by rw [hw]; exact HP105.2); have hp_ : Kd.S k55 55 w106 w.heap.size (fun _ => True) (.slice (some ⟨go99, 0, none⟩) x3_1.length co100) y281 := (by rw [hw, Ny281.out]; exact HP105.1); clear HP105; replace HI0 := Aside0.mk (IsS94.grown zba2 hg (IsS94.own_neS HI0.out HO_3.out (by decide))); replace HL273_1 := Aside0.mk (Kd.R_after (v := (.slice (some ⟨go99, 0, none⟩) x3_1.length co100)) (v1 := (.slice (some ⟨go99, 0, none⟩) x3_1.length co100)) (ok := (fun k_ => some k_ ≠ (v279 : Value).ownBlock)) (zba30 HL273_1.out) hg (.inl rfl)); replace HL273_2 := Aside0.mk (Kd.R_after (v := (.slice (some ⟨go99, 0, none⟩) x3_1.length co100)) (v1 := (.slice (some ⟨go99, 0, none⟩) x3_1.length co100)) (ok := (fun k_ => some k_ ≠ (v279 : Value).ownBlock)) (zba30 HL273_2.out) hg (.inl rfl)); replace HB := Aside0.mk ((by rw [hw]; exact below_set (HB.out) (Nat.le_trans HL.out GB99.out) : Below w0.heap.size w0 w106)); replace HK := Aside0.mk (KeepBut.trans zba0 (KeepBut.of_grown hg g) (Kd.S_base2 HO_3.out)); replace HO_3 := Aside0.mk (hp_); clear HO280; clear hg hw hp_))
           go_ret
           exact ⟨_, zba28, zba3 HO_3.out, zba2, zba1, zba0⟩
          ·rw [if_neg c98] at H
           have c98b0 : (t274 == 1) = false := beq_eq_false_iff_ne.mpr c98
           have c98b1 : (t274 != 1) = true := bne_iff_ne.mpr c98
           by_cases c107 : t274 = 2
           ·rw [if_pos c107] at H
            have c107b0 : (t274 == 2) = true := beq_iff_eq.mpr c107
            have c107b1 : (t274 != 2) = false := bne_eq_false_iff_eq.mpr c107
            clear c107
            obtain ⟨y282, hy282⟩ : ∃ y_ : List ByteArray, y_ = (([(⟨#[]⟩ : ByteArray)] : List ByteArray)) := ⟨_, rfl⟩
            replace H : (some ((x3_1.set (t270 : Int).toNat (⟨(rd_T55 x3_1 t270).f0, (rd_T55 x3_1 t270).f1, y282, (rd_T55 x3_1 t270).f3, (rd_T55 x3_1 t270).f4⟩ : S55)), t275, t276)) = some (r1, r2, r3) := by first | (rw [hy282]; with_reducible exact H) | (have H2_ := (Option.bind_some _ _).symm.trans H; rw [hy282]; with_reducible exact H2_) | (have H2_ := (Option.bind_some _ _).symm.trans H; with_reducible exact H2_) | with_reducible exact H | (rw [hy282]; exact H) | exact H
            have Ny282 := Aside0.mk hy282
            clear hy282
            obtain ⟨y285, hy285⟩ : ∃ y_ : List (S55), y_ = (x3_1.set (t270 : Int).toNat (⟨(rd_T55 x3_1 t270).f0, (rd_T55 x3_1 t270).f1, y282, (rd_T55 x3_1 t270).f3, (rd_T55 x3_1 t270).f4⟩ : S55)) := ⟨_, rfl⟩
            replace H : (some (y285, t275, t276)) = some (r1, r2, r3) := by first | (rw [hy285]; with_reducible exact H) | (have H2_ := (Option.bind_some _ _).symm.trans H; rw [hy285]; with_reducible exact H2_) | (have H2_ := (Option.bind_some _ _).symm.trans H; with_reducible exact H2_) | with_reducible exact H | (rw [hy285]; exact H) | exact H
            have Ny285 := Aside0.mk hy285
            clear hy285
            simp only [Option.some.injEq, Prod.mk.injEq] at H
            obtain ⟨rfl, rfl, rfl⟩ := H
            obtain ⟨Ao109, co109, eo109⟩ := Kd.S_slice HO_3.out
            subst eo109
            go_wp2_with (first | ((with_reducible refine gate_callee (f := 74) rfl ?_); refine goesL_ (some 91) rfl rfl Try.func74 (by kernel_rfl) rfl #[.pointer (some ⟨g, 0, none⟩), .int .i64 (x3_1.length : Int)] rfl zba6 ?_; (with_reducible refine (spec_l1Below.calls g s0_0 x1001_78 x1002_78 (x3_1.length : Int) t270 t271 t272 w0 _ ?side1 ?side2 A87.out).mono ?_); (case side1 => exact zba2); (case side2 => exact zba1); rintro e w110 ⟨rfl, hi, hb, hk⟩; refine ⟨_, rfl, ?_⟩; replace HO_3 := Aside0.mk (Kd.S_mono (Kd.S_keep (IsS94.apartS (show IsS94 w0 _ g s0_0 x1001_78 x1002_78 from zba2) (zba3 HO_3.out) (by decide)) hk (fun _ h => h.2)) (fun _ h => h.1)); replace HK := Aside0.mk (KeepBut.trans zba0 hk (.inl rfl)); replace HB := Aside0.mk (hb); replace HI0 := Aside0.mk (hi); (try clear hb); (try clear hb2); (try clear hk); (try clear hi); have p273 : 0 ≤ (t270 : Int) := of_decide_eq_true zba7; have q273 : t270 < (x3_1.length : Int) := of_decide_eq_true zba7; obtain ⟨ad273, A273_1, c273_1, A273_2, c273_2, e273, hx273_0, hx273_1, hx273_2, hx273_3, hx273_4, hl273_1, hi273_1, hl273_2, hi273_2⟩ := at_T55 (Kd.S_reads' HO_3.out).2.2 t270 p273 q273; cases e273; obtain ⟨ce273, hce273, hMe273, hcc273⟩ := Kd.S_get HO_3.out z55 t270 p273 zba25; obtain ⟨ve273_1, ve273_2, rfl, ge273_1, ge273_2⟩ := k55_openM hMe273; have hv273_1 := hcc273 1 _ rfl; rw [add_field _ _ 1 (by omega)] at hv273_1; replace hv273_1 := Option.some.inj (hv273_1.symm.trans hx273_1); rw [hv273_1] at ge273_1; have HL273_1 := Aside0.mk (show Kd.R Kd.string 9 _ _ _ _ ((rd_T55 x3_1 t270).f1) from ge273_1); clear hv273_1 ge273_1; have hv273_2 := hcc273 2 _ rfl; rw [add_field _ _ 2 (by omega)] at hv273_2; replace hv273_2 := Option.some.inj (hv273_2.symm.trans hx273_2); rw [hv273_2] at ge273_2; have HL273_2 := Aside0.mk (show Kd.R Kd.string 9 _ _ _ _ ((rd_T55 x3_1 t270).f2) from ge273_2); clear hv273_2 ge273_2; clear hcc273 hce273; have HR273_1 := Aside0.mk hi273_1; have HC273_1 := Aside0.mk hl273_1; clear hi273_1 hl273_1; have HR273_2 := Aside0.mk hi273_2; have HC273_2 := Aside0.mk hl273_2; clear hi273_2 hl273_2; replace p273 := eq_true p273; replace q273 := eq_true q273) | ((with_reducible refine gate_callee (f := 74) rfl ?_); refine goesL_ (some 94) rfl rfl Try.func74 (by kernel_rfl) rfl #[.pointer (some ⟨g, 0, none⟩), .int .i64 4] rfl zba6 ?_; (with_reducible refine (spec_l1Below.calls g s0_0 t271 t272 4 t274 t275 t276 w0 _ ?side1 ?side2 A90.out).mono ?_); (case side1 => exact zba2); (case side2 => exact zba1); rintro e w111 ⟨rfl, hi, hb, hk⟩; refine ⟨_, rfl, ?_⟩; replace HO_3 := Aside0.mk (Kd.S_mono (Kd.S_keep (IsS94.apartS (show IsS94 w0 _ g s0_0 t271 t272 from zba2) (zba3 HO_3.out) (by decide)) hk (fun _ h => h.2)) (fun _ h => h.1)); replace HL273_1 := Aside0.mk (Kd.R_mono (Kd.R_keep (IsS94.apart (show IsS94 w0 _ g s0_0 t271 t272 from zba2) (zba5 HL273_1.out) (by decide)) hk (fun _ h => h.2)) (fun _ h => h.1)); replace HL273_2 := Aside0.mk (Kd.R_mono (Kd.R_keep (IsS94.apart (show IsS94 w0 _ g s0_0 t271 t272 from zba2) (zba5 HL273_2.out) (by decide)) hk (fun _ h => h.2)) (fun _ h => h.1)); replace HK := Aside0.mk (KeepBut.trans zba0 hk (.inl rfl)); replace HB := Aside0.mk (hb); replace HI0 := Aside0.mk (hi); (try clear hb); (try clear hb2); (try clear hk); (try clear hi)) | ((with_reducible refine gate_dst (N := 109) rfl ?_); (try (refine gate_guard (by rfl) ?_; dsimp only)); refine Kd.R_lit Kd.string _ 9 ?hg (N := 109) ?hd (xs := ([(⟨#[]⟩ : ByteArray)] : List ByteArray)) (inner := [.string (⟨#[]⟩ : ByteArray)]) (ok := fun _ => True) (okp := fun _ => True) ?hr ?hp (fun _ hk => hk) trivial (Below.refl _ _) (Nat.le_refl _) (by simp) ?_; (case hd => rfl); (case hg => rfl); (case hr => first | (go_simp; done) | (go_simp; rfl) | (obtain ⟨_, _, e_⟩ := Kd.R_slice HO284.out; subst e_; first | (go_simp; done) | (go_simp; rfl))); (case hp => exact (Reps.one (show Kd.M Kd.string _ _ _ (⟨#[]⟩ : ByteArray) [.string (⟨#[]⟩ : ByteArray)] from rfl) (Reps.none _ _))); intro v283 w112 ho113 hb hg_ hnew_; clear hg_ hnew_; (first | rw [← Ny282.out] at ho113 | (simp only [Int.reduceToNat] at ho113; rw [← Ny282.out] at ho113)); replace HO_3 := Aside0.mk (Kd.S_elder' (zba3 HO_3.out) (Kd.R_base ho113) hb); have HO284 := Aside0.mk (Kd.R_lower (Kd.R_new' (Kd.R_new' ho113 (Kd.R_lt (zba5 HL273_1.out))) (Kd.R_lt (zba5 HL273_2.out))) (keep_size (w := w) (g := g) (row := none) zba0)); replace HL273_1 := Aside0.mk (Kd.R_elder' (zba5 HL273_1.out) (Kd.R_base ho113) hb); replace HL273_2 := Aside0.mk (Kd.R_elder' (zba5 HL273_2.out) (Kd.R_base ho113) hb); replace HK := Aside0.mk (KeepBut.trans zba0 (KeepBut.of_below hb g none) (.inl rfl)); replace HB := Aside0.mk (below_step zba1 hb); replace HI0 := Aside0.mk (IsS94.below zba2 hb); clear hb ho113; have p108 : 0 ≤ (t270 : Int) := of_decide_eq_true zba7; have q108 : (t270 : Int) < ((x3_1.length : Int) : Int) := of_decide_eq_true zba7; obtain ⟨go108, co108, eo108, gb108, gl108, cl108, HG108⟩ := Kd.S_form HO_3.out (by omega); (first | cases eo108 | (injection eo108 with ea_ en_ ec_; (first | subst ea_ | (injection ea_ with ea_; subst ea_)); subst ec_; clear en_)); have GB108 := Aside0.mk gb108; have GG108 := Aside0.mk HG108; clear gb108 gl108 HG108; (first | simp only [add_plain] at hx273_0 | skip); (first | simp only [add_plain] at hx273_1 | skip); (first | simp only [add_plain] at hx273_2 | skip); (first | simp only [add_plain] at hx273_3 | skip); (first | simp only [add_plain] at hx273_4 | skip); obtain ⟨_, ce108, hcl108, hM108, hcc108, hfr108, _, _⟩ := Kd.S_elem HO_3.out z55 (t270 : Int) p108 q108; obtain ⟨ve108_1, ve108_2, rfl, ge108_1, ge108_2⟩ := k55_openM hM108; have hx108_0 : w112.cell? ⟨go108, (t270 : Int).toNat * 5, none⟩ = some (.string ((rd_T55 x3_1 t270).f0)) := hcc108 0 _ rfl; have hx108_1 : w112.cell? ⟨go108, (t270 : Int).toNat * 5 + 1, none⟩ = some (ve108_1) := hcc108 1 _ rfl; have hx108_2 : w112.cell? ⟨go108, (t270 : Int).toNat * 5 + 2, none⟩ = some (ve108_2) := hcc108 2 _ rfl; have hx108_3 : w112.cell? ⟨go108, (t270 : Int).toNat * 5 + 3, none⟩ = some (.string ((rd_T55 x3_1 t270).f3)) := hcc108 3 _ rfl; have hx108_4 : w112.cell? ⟨go108, (t270 : Int).toNat * 5 + 4, none⟩ = some (.bool ((rd_T55 x3_1 t270).f4)) := hcc108 4 _ rfl; have hf108_0 : w112.frozen? ⟨go108, (t270 : Int).toNat * 5, none⟩ = false := hfr108 0; have hf108_1 : w112.frozen? ⟨go108, (t270 : Int).toNat * 5 + 1, none⟩ = false := hfr108 1; have hf108_2 : w112.frozen? ⟨go108, (t270 : Int).toNat * 5 + 2, none⟩ = false := hfr108 2; have hf108_3 : w112.frozen? ⟨go108, (t270 : Int).toNat * 5 + 3, none⟩ = false := hfr108 3; have hf108_4 : w112.frozen? ⟨go108, (t270 : Int).toNat * 5 + 4, none⟩ = false := hfr108 4; clear hcl108 hcc108 hfr108 hM108; replace p108 := eq_true p108; replace q108 := eq_true q108; have n_ := Aside0.mk (Kd.S_mono (ok' := (fun k_ => some k_ ≠ (v283 : Value).ownBlock)) HO_3.out (fun k_ hk => hk.2)); clear HO_3; have HO_3 := n_; clear n_; have HX114 := Aside0.mk (show Kd.S k55 55 w112 w.heap.size (fun k_ => ((fun _ => True)) k_ ∧ ¬ ((fun k_ => some k_ = (v283 : Value).ownBlock)) k_) (.slice (some ⟨go108, 0, none⟩) x3_1.length co109) x3_1 from zba29); obtain ⟨oki114, ce114, hcl114, hM114, hcc114, hfr114, hoki114, hH114⟩ := Kd.S_elem HX114.out z55 (t270 : Int) (of_decide_eq_true zba7) zba27; obtain ⟨ve114_1, ve114_2, rfl, ge114_1, ge114_2⟩ := k55_openM hM114; have HP114 := Kd.S_seg hH114 (of_decide_eq_true zba7) zba27 (seg := [v283]) (j := 2) (show 3 ≤ 5 from by decide) (x' := (⟨(rd_T55 x3_1 t270).f0, (rd_T55 x3_1 t270).f1, y282, (rd_T55 x3_1 t270).f3, (rd_T55 x3_1 t270).f4⟩ : S55)) (k55_mkM _ _ _ (⟨(rd_T55 x3_1 t270).f0, (rd_T55 x3_1 t270).f1, y282, (rd_T55 x3_1 t270).f3, (rd_T55 x3_1 t270).f4⟩ : S55) (Kd.R_mono ge114_1 (fun _ h_ => Or.inl h_)) (Kd.R_mono (Kd.R_tight rfl (Kd.R_mono (ok' := fun k_ => ((fun _ => True)) k_ ∧ k_ ≠ go108) (Kd.R_apart' (HO284.out) (Kd.S_typed HO_3.out) (by decide)) (fun k_ hk => ⟨trivial, fun e_ => (hk.2) (by rw [e_]; rfl)⟩))) (fun _ h_ => Or.inr (h_)))) (fun _ hk => hk) (fun k_ hk_ => ((Kd.R_mono (ok' := fun k_ => ((fun _ => True)) k_ ∧ k_ ≠ go108) (Kd.R_apart' (HO284.out) (Kd.S_typed HO_3.out) (by decide)) (fun k_ hk => ⟨trivial, fun e_ => (hk.2) (by rw [e_]; rfl)⟩))).1 k_ hk_.symm); have hx114_2 := hcc114 2 _ rfl; (try simp only [show (k55).sz = 5 from rfl, Nat.mul_one, Nat.add_zero] at hx114_2); have hf114_2 := hfr114 2; (try simp only [show (k55).sz = 5 from rfl, Nat.mul_one, Nat.add_zero] at hf114_2); clear hcl114 hcc114 hfr114 hM114 hoki114 hH114) | ((with_reducible refine gate_store (t := 29) (p := 111) rfl ?_); refine store_event (t := 29) (p := 111) (v := ?vo_w115) (w1 := (w112.setCell ⟨go108, (t270 : Int).toNat * 5 + 2, none⟩ (v283))) ?hg ?ho ?hn ?hr ?_; (case ho => rfl); (case hg => rfl); (case hn => rfl); (case hr => first | (go_simp; done) | (go_simp; rfl) | (obtain ⟨_, _, e_⟩ := Kd.R_slice HO284.out; subst e_; first | (go_simp; done) | (go_simp; rfl))); intro w115 hw; have hg : w112.grownBy w115 (some go108) := (by rw [hw]; exact HP114.2); have hp_ : Kd.S k55 55 w115 w.heap.size (fun _ => True) (.slice (some ⟨go108, 0, none⟩) x3_1.length co109) y285 := (by rw [hw, Ny285.out]; exact HP114.1); clear HP114; replace HI0 := Aside0.mk (IsS94.grown zba2 hg (IsS94.own_neS HI0.out HO_3.out (by decide))); replace HL273_1 := Aside0.mk (Kd.R_after (v := (.slice (some ⟨go108, 0, none⟩) x3_1.length co109)) (v1 := (.slice (some ⟨go108, 0, none⟩) x3_1.length co109)) (ok := (fun k_ => some k_ ≠ (v283 : Value).ownBlock)) (zba30 HL273_1.out) hg (.inl rfl)); replace HL273_2 := Aside0.mk (Kd.R_after (v := (.slice (some ⟨go108, 0, none⟩) x3_1.length co109)) (v1 := (.slice (some ⟨go108, 0, none⟩) x3_1.length co109)) (ok := (fun k_ => some k_ ≠ (v283 : Value).ownBlock)) (zba30 HL273_2.out) hg (.inl rfl)); replace HB := Aside0.mk ((by rw [hw]; exact below_set (HB.out) (Nat.le_trans HL.out GB108.out) : Below w0.heap.size w0 w115)); replace HK := Aside0.mk (KeepBut.trans zba0 (KeepBut.of_grown hg g) (Kd.S_base2 HO_3.out)); replace HO_3 := Aside0.mk (hp_); clear HO284; clear hg hw hp_))
            go_ret
            exact ⟨_, zba28, zba3 HO_3.out, zba2, zba1, zba0⟩
           ·rw [if_neg c107] at H
            have c107b0 : (t274 == 2) = false := beq_eq_false_iff_ne.mpr c107
            have c107b1 : (t274 != 2) = true := bne_iff_ne.mpr c107
            by_cases c116 : t274 = 3
            ·rw [if_pos c116] at H
             have c116b0 : (t274 == 3) = true := beq_iff_eq.mpr c116
             have c116b1 : (t274 != 3) = false := bne_eq_false_iff_eq.mpr c116
             clear c116
             replace H := Option.bind_eq_some_iff.mp H
             obtain ⟨⟨t286, t287, t288⟩, A1170, H⟩ := H
             replace H : (if 0 ≤ (wrap64 (4000 + t286)) then (if (wrap64 (4000 + t286) : Int).toNat ≤ 281474976710656 then (some ((x3_1.set (t270 : Int).toNat (⟨(rd_T55 x3_1 t270).f0, (rd_T55 x3_1 t270).f1, (rd_T55 x3_1 t270).f2, strOfNums (List.replicate (wrap64 (4000 + t286) : Int).toNat 0), (rd_T55 x3_1 t270).f4⟩ : S55)), t287, t288)) else (none)) else (none)) = some (r1, r2, r3) := H
             have A117 := Aside0.mk A1170
             clear A1170
             obtain ⟨ji118, hji118⟩ : ∃ j_ : Int, (wrap64 (4000 + t286)) = j_ := ⟨_, rfl⟩
             replace H : (if 0 ≤ (ji118) then (if (ji118 : Int).toNat ≤ 281474976710656 then (some ((x3_1.set (t270 : Int).toNat (⟨(rd_T55 x3_1 t270).f0, (rd_T55 x3_1 t270).f1, (rd_T55 x3_1 t270).f2, strOfNums (List.replicate (ji118 : Int).toNat 0), (rd_T55 x3_1 t270).f4⟩ : S55)), t287, t288)) else (none)) else (none)) = some (r1, r2, r3) := by first | (rw [hji118] at H; exact H) | (simp only [hji118] at H ⊢; exact H)
             (try rw [hji118] at A87)
             (try rw [hji118] at A90)
             (try rw [hji118] at A117)
             have hji118w : (IntKind.i64.wrap (4000 + t286)) = ji118 := (i64_w _).trans hji118
             by_cases c119 : 0 ≤ (ji118)
             ·rw [if_pos c119] at H
              have c119b0 := eq_true c119
              have c119b1 : decide (0 ≤ (ji118)) = true := decide_eq_true c119
              clear c119
              by_cases c120 : (ji118 : Int).toNat ≤ 281474976710656
              ·rw [if_pos c120] at H
               have c120b0 := eq_true c120
               have c120b1 : decide ((ji118 : Int).toNat ≤ 281474976710656) = true := decide_eq_true c120
               clear c120
               obtain ⟨y289, hy289⟩ : ∃ y_ : List Int, y_ = (List.replicate (ji118 : Int).toNat 0) := ⟨_, rfl⟩
               replace H : (some ((x3_1.set (t270 : Int).toNat (⟨(rd_T55 x3_1 t270).f0, (rd_T55 x3_1 t270).f1, (rd_T55 x3_1 t270).f2, strOfNums y289, (rd_T55 x3_1 t270).f4⟩ : S55)), t287, t288)) = some (r1, r2, r3) := by first | (rw [hy289]; with_reducible exact H) | (have H2_ := (Option.bind_some _ _).symm.trans H; rw [hy289]; with_reducible exact H2_) | (have H2_ := (Option.bind_some _ _).symm.trans H; with_reducible exact H2_) | with_reducible exact H | (rw [hy289]; exact H) | exact H
               have Ny289 := Aside0.mk hy289
               clear hy289
               obtain ⟨y292, hy292⟩ : ∃ y_ : List (S55), y_ = (x3_1.set (t270 : Int).toNat (⟨(rd_T55 x3_1 t270).f0, (rd_T55 x3_1 t270).f1, (rd_T55 x3_1 t270).f2, strOfNums y289, (rd_T55 x3_1 t270).f4⟩ : S55)) := ⟨_, rfl⟩
               replace H : (some (y292, t287, t288)) = some (r1, r2, r3) := by first | (rw [hy292]; with_reducible exact H) | (have H2_ := (Option.bind_some _ _).symm.trans H; rw [hy292]; with_reducible exact H2_) | (have H2_ := (Option.bind_some _ _).symm.trans H; with_reducible exact H2_) | with_reducible exact H | (rw [hy292]; exact H) | exact H
               have Ny292 := Aside0.mk hy292
               clear hy292
               simp only [Option.some.injEq, Prod.mk.injEq] at H
               obtain ⟨rfl, rfl, rfl⟩ := H
               obtain ⟨Ao122, co122, eo122⟩ := Kd.S_slice HO_3.out
               subst eo122
               go_wp2_with (first | ((with_reducible refine gate_callee (f := 74) rfl ?_); refine goesL_ (some 91) rfl rfl Try.func74 (by kernel_rfl) rfl #[.pointer (some ⟨g, 0, none⟩), .int .i64 (x3_1.length : Int)] rfl zba6 ?_; (with_reducible refine (spec_l1Below.calls g s0_0 x1001_78 x1002_78 (x3_1.length : Int) t270 t271 t272 w0 _ ?side1 ?side2 A87.out).mono ?_); (case side1 => exact zba2); (case side2 => exact zba1); rintro e w123 ⟨rfl, hi, hb, hk⟩; refine ⟨_, rfl, ?_⟩; replace HO_3 := Aside0.mk (Kd.S_mono (Kd.S_keep (IsS94.apartS (show IsS94 w0 _ g s0_0 x1001_78 x1002_78 from zba2) (zba3 HO_3.out) (by decide)) hk (fun _ h => h.2)) (fun _ h => h.1)); replace HK := Aside0.mk (KeepBut.trans zba0 hk (.inl rfl)); replace HB := Aside0.mk (hb); replace HI0 := Aside0.mk (hi); (try clear hb); (try clear hb2); (try clear hk); (try clear hi); have p273 : 0 ≤ (t270 : Int) := of_decide_eq_true zba7; have q273 : t270 < (x3_1.length : Int) := of_decide_eq_true zba7; obtain ⟨ad273, A273_1, c273_1, A273_2, c273_2, e273, hx273_0, hx273_1, hx273_2, hx273_3, hx273_4, hl273_1, hi273_1, hl273_2, hi273_2⟩ := at_T55 (Kd.S_reads' HO_3.out).2.2 t270 p273 q273; cases e273; obtain ⟨ce273, hce273, hMe273, hcc273⟩ := Kd.S_get HO_3.out z55 t270 p273 zba25; obtain ⟨ve273_1, ve273_2, rfl, ge273_1, ge273_2⟩ := k55_openM hMe273; have hv273_1 := hcc273 1 _ rfl; rw [add_field _ _ 1 (by omega)] at hv273_1; replace hv273_1 := Option.some.inj (hv273_1.symm.trans hx273_1); rw [hv273_1] at ge273_1; have HL273_1 := Aside0.mk (show Kd.R Kd.string 9 _ _ _ _ ((rd_T55 x3_1 t270).f1) from ge273_1); clear hv273_1 ge273_1; have hv273_2 := hcc273 2 _ rfl; rw [add_field _ _ 2 (by omega)] at hv273_2; replace hv273_2 := Option.some.inj (hv273_2.symm.trans hx273_2); rw [hv273_2] at ge273_2; have HL273_2 := Aside0.mk (show Kd.R Kd.string 9 _ _ _ _ ((rd_T55 x3_1 t270).f2) from ge273_2); clear hv273_2 ge273_2; clear hcc273 hce273; have HR273_1 := Aside0.mk hi273_1; have HC273_1 := Aside0.mk hl273_1; clear hi273_1 hl273_1; have HR273_2 := Aside0.mk hi273_2; have HC273_2 := Aside0.mk hl273_2; clear hi273_2 hl273_2; replace p273 := eq_true p273; replace q273 := eq_true q273) | ((with_reducible refine gate_callee (f := 74) rfl ?_); refine goesL_ (some 94) rfl rfl Try.func74 (by kernel_rfl) rfl #[.pointer (some ⟨g, 0, none⟩), .int .i64 4] rfl zba6 ?_; (with_reducible refine (spec_l1Below.calls g s0_0 t271 t272 4 t274 t275 t276 w0 _ ?side1 ?side2 A90.out).mono ?_); (case side1 => exact zba2); (case side2 => exact zba1); rintro e w124 ⟨rfl, hi, hb, hk⟩; refine ⟨_, rfl, ?_⟩; replace HO_3 := Aside0.mk (Kd.S_mono (Kd.S_keep (IsS94.apartS (show IsS94 w0 _ g s0_0 t271 t272 from zba2) (zba3 HO_3.out) (by decide)) hk (fun _ h => h.2)) (fun _ h => h.1)); replace HL273_1 := Aside0.mk (Kd.R_mono (Kd.R_keep (IsS94.apart (show IsS94 w0 _ g s0_0 t271 t272 from zba2) (zba5 HL273_1.out) (by decide)) hk (fun _ h => h.2)) (fun _ h => h.1)); replace HL273_2 := Aside0.mk (Kd.R_mono (Kd.R_keep (IsS94.apart (show IsS94 w0 _ g s0_0 t271 t272 from zba2) (zba5 HL273_2.out) (by decide)) hk (fun _ h => h.2)) (fun _ h => h.1)); replace HK := Aside0.mk (KeepBut.trans zba0 hk (.inl rfl)); replace HB := Aside0.mk (hb); replace HI0 := Aside0.mk (hi); (try clear hb); (try clear hb2); (try clear hk); (try clear hi)) | ((with_reducible refine gate_callee (f := 74) rfl ?_); refine goesL_ (some 116) rfl rfl Try.func74 (by kernel_rfl) rfl #[.pointer (some ⟨g, 0, none⟩), .int .i64 2] rfl zba6 ?_; (with_reducible refine (spec_l1Below.calls g s0_0 t275 t276 2 t286 t287 t288 w0 _ ?side1 ?side2 A117.out).mono ?_); (case side1 => exact zba2); (case side2 => exact zba1); rintro e w125 ⟨rfl, hi, hb, hk⟩; refine ⟨_, rfl, ?_⟩; replace HO_3 := Aside0.mk (Kd.S_mono (Kd.S_keep (IsS94.apartS (show IsS94 w0 _ g s0_0 t275 t276 from zba2) (zba3 HO_3.out) (by decide)) hk (fun _ h => h.2)) (fun _ h => h.1)); replace HL273_1 := Aside0.mk (Kd.R_mono (Kd.R_keep (IsS94.apart (show IsS94 w0 _ g s0_0 t275 t276 from zba2) (zba5 HL273_1.out) (by decide)) hk (fun _ h => h.2)) (fun _ h => h.1)); replace HL273_2 := Aside0.mk (Kd.R_mono (Kd.R_keep (IsS94.apart (show IsS94 w0 _ g s0_0 t275 t276 from zba2) (zba5 HL273_2.out) (by decide)) hk (fun _ h => h.2)) (fun _ h => h.1)); replace HK := Aside0.mk (KeepBut.trans zba0 hk (.inl rfl)); replace HB := Aside0.mk (hb); replace HI0 := Aside0.mk (hi); (try clear hb); (try clear hb2); (try clear hk); (try clear hi)) | ((with_reducible refine gate_dst (N := 118) rfl ?_); (try (refine gate_guard (by rfl) ?_; dsimp only)); refine Kd.R_make (Kd.int .u8) _ 5 rfl (N := 118) rfl 49 _ _ rfl ji118 rfl rfl Try.underlying49 (.int .u8 0) 1 info5 rfl (by decide) (by omega) 0 (ok := fun _ => True) (okp := fun _ => True) rfl (fun _ hk => hk) trivial (of_decide_eq_true zba7) (Nat.le_trans (Nat.mul_le_mul_right _ (of_decide_eq_true zba7 : ji118.toNat ≤ 281474976710656)) (by omega)) (Below.refl _ _) (Nat.le_refl _) ?_; intro v290 w126 ho127 hb hg_ hnew_; clear hg_ hnew_; (first | rw [← Ny289.out] at ho127 | (simp only [Int.reduceToNat] at ho127; rw [← Ny289.out] at ho127)); replace HO_3 := Aside0.mk (Kd.S_below (zba3 HO_3.out) hb); replace HL273_1 := Aside0.mk (Kd.R_below (zba5 HL273_1.out) hb); replace HL273_2 := Aside0.mk (Kd.R_below (zba5 HL273_2.out) hb); have HO291 := Aside0.mk (Kd.R_lower ho127 (keep_size (w := w) (g := g) (row := none) zba0)); replace HK := Aside0.mk (KeepBut.trans zba0 (KeepBut.of_below hb g none) (.inl rfl)); replace HB := Aside0.mk (below_step zba1 hb); replace HI0 := Aside0.mk (IsS94.below zba2 hb); clear hb ho127; have hcv128 := own_string (P := Try.prog) Try.underlying49 Try.underlying5 Try.underlying9 (Kd.own_of_R HO291.out); have p121 : 0 ≤ (t270 : Int) := of_decide_eq_true zba7; have q121 : (t270 : Int) < ((x3_1.length : Int) : Int) := of_decide_eq_true zba7; obtain ⟨go121, co121, eo121, gb121, gl121, cl121, HG121⟩ := Kd.S_form HO_3.out (by omega); (first | cases eo121 | (injection eo121 with ea_ en_ ec_; (first | subst ea_ | (injection ea_ with ea_; subst ea_)); subst ec_; clear en_)); have GB121 := Aside0.mk gb121; have GG121 := Aside0.mk HG121; clear gb121 gl121 HG121; (first | simp only [add_plain] at hx273_0 | skip); (first | simp only [add_plain] at hx273_1 | skip); (first | simp only [add_plain] at hx273_2 | skip); (first | simp only [add_plain] at hx273_3 | skip); (first | simp only [add_plain] at hx273_4 | skip); obtain ⟨_, ce121, hcl121, hM121, hcc121, hfr121, _, _⟩ := Kd.S_elem HO_3.out z55 (t270 : Int) p121 q121; obtain ⟨ve121_1, ve121_2, rfl, ge121_1, ge121_2⟩ := k55_openM hM121; have hx121_0 : w126.cell? ⟨go121, (t270 : Int).toNat * 5, none⟩ = some (.string ((rd_T55 x3_1 t270).f0)) := hcc121 0 _ rfl; have hx121_1 : w126.cell? ⟨go121, (t270 : Int).toNat * 5 + 1, none⟩ = some (ve121_1) := hcc121 1 _ rfl; have hx121_2 : w126.cell? ⟨go121, (t270 : Int).toNat * 5 + 2, none⟩ = some (ve121_2) := hcc121 2 _ rfl; have hx121_3 : w126.cell? ⟨go121, (t270 : Int).toNat * 5 + 3, none⟩ = some (.string ((rd_T55 x3_1 t270).f3)) := hcc121 3 _ rfl; have hx121_4 : w126.cell? ⟨go121, (t270 : Int).toNat * 5 + 4, none⟩ = some (.bool ((rd_T55 x3_1 t270).f4)) := hcc121 4 _ rfl; have hf121_0 : w126.frozen? ⟨go121, (t270 : Int).toNat * 5, none⟩ = false := hfr121 0; have hf121_1 : w126.frozen? ⟨go121, (t270 : Int).toNat * 5 + 1, none⟩ = false := hfr121 1; have hf121_2 : w126.frozen? ⟨go121, (t270 : Int).toNat * 5 + 2, none⟩ = false := hfr121 2; have hf121_3 : w126.frozen? ⟨go121, (t270 : Int).toNat * 5 + 3, none⟩ = false := hfr121 3; have hf121_4 : w126.frozen? ⟨go121, (t270 : Int).toNat * 5 + 4, none⟩ = false := hfr121 4; clear hcl121 hcc121 hfr121 hM121; replace p121 := eq_true p121; replace q121 := eq_true q121; have HX129 := Aside0.mk (show Kd.S k55 55 w126 w.heap.size (fun k_ => ((fun _ => True)) k_ ∧ ¬ ((fun _ => False)) k_) (.slice (some ⟨go121, 0, none⟩) x3_1.length co122) x3_1 from zba26); obtain ⟨oki129, ce129, hcl129, hM129, hcc129, hfr129, hoki129, hH129⟩ := Kd.S_elem HX129.out z55 (t270 : Int) (of_decide_eq_true zba7) zba27; obtain ⟨ve129_1, ve129_2, rfl, ge129_1, ge129_2⟩ := k55_openM hM129; have HP129 := Kd.S_seg hH129 (of_decide_eq_true zba7) zba27 (seg := [.string (strOfNums y289)]) (j := 3) (show 4 ≤ 5 from by decide) (x' := (⟨(rd_T55 x3_1 t270).f0, (rd_T55 x3_1 t270).f1, (rd_T55 x3_1 t270).f2, strOfNums y289, (rd_T55 x3_1 t270).f4⟩ : S55)) (k55_mkM _ _ _ (⟨(rd_T55 x3_1 t270).f0, (rd_T55 x3_1 t270).f1, (rd_T55 x3_1 t270).f2, strOfNums y289, (rd_T55 x3_1 t270).f4⟩ : S55) (Kd.R_mono ge129_1 (fun _ h_ => Or.inl h_)) (Kd.R_mono ge129_2 (fun _ h_ => Or.inl h_))) (fun _ hk => hk) (fun k_ hk_ => hk_.elim); have hx129_3 := hcc129 3 _ rfl; (try simp only [show (k55).sz = 5 from rfl, Nat.mul_one, Nat.add_zero] at hx129_3); have hf129_3 := hfr129 3; (try simp only [show (k55).sz = 5 from rfl, Nat.mul_one, Nat.add_zero] at hf129_3); clear hcl129 hcc129 hfr129 hM129 hoki129 hH129) | ((with_reducible refine gate_store (t := 9) (p := 121) rfl ?_); refine store_event (t := 9) (p := 121) (v := ?vo_w130) (w1 := (w126.setCell ⟨go121, (t270 : Int).toNat * 5 + 3, none⟩ (.string (strOfNums y289)))) ?hg ?ho ?hn ?hr ?_; (case ho => rfl); (case hg => rfl); (case hn => rfl); (case hr => first | (go_simp; done) | (go_simp; rfl)); intro w130 hw; have hg : w126.grownBy w130 (some go121) := (by rw [hw]; exact HP129.2); have hp_ : Kd.S k55 55 w130 w.heap.size (fun _ => True) (.slice (some ⟨go121, 0, none⟩) x3_1.length co122) y292 := (by rw [hw, Ny292.out]; exact HP129.1); clear HP129; replace HI0 := Aside0.mk (IsS94.grown zba2 hg (IsS94.own_neS HI0.out HO_3.out (by decide))); replace HL273_1 := Aside0.mk (Kd.R_after (v := (.slice (some ⟨go121, 0, none⟩) x3_1.length co122)) (v1 := (.slice (some ⟨go121, 0, none⟩) x3_1.length co122)) (ok := (fun _ => True)) (zba5 HL273_1.out) hg (.inl rfl)); replace HL273_2 := Aside0.mk (Kd.R_after (v := (.slice (some ⟨go121, 0, none⟩) x3_1.length co122)) (v1 := (.slice (some ⟨go121, 0, none⟩) x3_1.length co122)) (ok := (fun _ => True)) (zba5 HL273_2.out) hg (.inl rfl)); replace HO291 := Aside0.mk (Kd.R_over' (v := (.slice (some ⟨go121, 0, none⟩) x3_1.length co122)) (zba5 HO291.out) (Kd.S_typed HO_3.out) (by decide) hg); replace HB := Aside0.mk ((by rw [hw]; exact below_set (HB.out) (Nat.le_trans HL.out GB121.out) : Below w0.heap.size w0 w130)); replace HK := Aside0.mk (KeepBut.trans zba0 (KeepBut.of_grown hg g) (Kd.S_base2 HO_3.out)); replace HO_3 := Aside0.mk (hp_); clear hg hw hp_))
               go_ret
               exact ⟨_, by first | rfl | (simp [errW_none, errW_some] <;> rfl) | (simp only [← hji118]; first | rfl | (simp [errW_none, errW_some] <;> rfl)) | (simp [*, errW_none, errW_some] <;> rfl), zba3 HO_3.out, zba2, zba1, zba0⟩
              ·rw [if_neg c120] at H
               exact absurd H (by simp)
             ·rw [if_neg c119] at H
              exact absurd H (by simp)
            ·rw [if_neg c116] at H
             have c116b0 : (t274 == 3) = false := beq_eq_false_iff_ne.mpr c116
             have c116b1 : (t274 != 3) = true := bne_iff_ne.mpr c116
             simp only [Option.some.injEq, Prod.mk.injEq] at H
             obtain ⟨rfl, rfl, rfl⟩ := H
             obtain ⟨Ao131, co131, eo131⟩ := Kd.S_slice HO_3.out
             subst eo131
             go_wp2_with (first | ((with_reducible refine gate_callee (f := 74) rfl ?_); refine goesL_ (some 91) rfl rfl Try.func74 (by kernel_rfl) rfl #[.pointer (some ⟨g, 0, none⟩), .int .i64 (x3_1.length : Int)] rfl zba6 ?_; (with_reducible refine (spec_l1Below.calls g s0_0 x1001_78 x1002_78 (x3_1.length : Int) t270 t271 t272 w0 _ ?side1 ?side2 A87.out).mono ?_); (case side1 => exact zba2); (case side2 => exact zba1); rintro e w132 ⟨rfl, hi, hb, hk⟩; refine ⟨_, rfl, ?_⟩; replace HO_3 := Aside0.mk (Kd.S_mono (Kd.S_keep (IsS94.apartS (show IsS94 w0 _ g s0_0 x1001_78 x1002_78 from zba2) (zba3 HO_3.out) (by decide)) hk (fun _ h => h.2)) (fun _ h => h.1)); replace HK := Aside0.mk (KeepBut.trans zba0 hk (.inl rfl)); replace HB := Aside0.mk (hb); replace HI0 := Aside0.mk (hi); (try clear hb); (try clear hb2); (try clear hk); (try clear hi); have p273 : 0 ≤ (t270 : Int) := of_decide_eq_true zba7; have q273 : t270 < (x3_1.length : Int) := of_decide_eq_true zba7; obtain ⟨ad273, A273_1, c273_1, A273_2, c273_2, e273, hx273_0, hx273_1, hx273_2, hx273_3, hx273_4, hl273_1, hi273_1, hl273_2, hi273_2⟩ := at_T55 (Kd.S_reads' HO_3.out).2.2 t270 p273 q273; cases e273; obtain ⟨ce273, hce273, hMe273, hcc273⟩ := Kd.S_get HO_3.out z55 t270 p273 zba25; obtain ⟨ve273_1, ve273_2, rfl, ge273_1, ge273_2⟩ := k55_openM hMe273; have hv273_1 := hcc273 1 _ rfl; rw [add_field _ _ 1 (by omega)] at hv273_1; replace hv273_1 := Option.some.inj (hv273_1.symm.trans hx273_1); rw [hv273_1] at ge273_1; have HL273_1 := Aside0.mk (show Kd.R Kd.string 9 _ _ _ _ ((rd_T55 x3_1 t270).f1) from ge273_1); clear hv273_1 ge273_1; have hv273_2 := hcc273 2 _ rfl; rw [add_field _ _ 2 (by omega)] at hv273_2; replace hv273_2 := Option.some.inj (hv273_2.symm.trans hx273_2); rw [hv273_2] at ge273_2; have HL273_2 := Aside0.mk (show Kd.R Kd.string 9 _ _ _ _ ((rd_T55 x3_1 t270).f2) from ge273_2); clear hv273_2 ge273_2; clear hcc273 hce273; have HR273_1 := Aside0.mk hi273_1; have HC273_1 := Aside0.mk hl273_1; clear hi273_1 hl273_1; have HR273_2 := Aside0.mk hi273_2; have HC273_2 := Aside0.mk hl273_2; clear hi273_2 hl273_2; replace p273 := eq_true p273; replace q273 := eq_true q273) | ((with_reducible refine gate_callee (f := 74) rfl ?_); refine goesL_ (some 94) rfl rfl Try.func74 (by kernel_rfl) rfl #[.pointer (some ⟨g, 0, none⟩), .int .i64 4] rfl zba6 ?_; (with_reducible refine (spec_l1Below.calls g s0_0 t271 t272 4 t274 t275 t276 w0 _ ?side1 ?side2 A90.out).mono ?_); (case side1 => exact zba2); (case side2 => exact zba1); rintro e w133 ⟨rfl, hi, hb, hk⟩; refine ⟨_, rfl, ?_⟩; replace HO_3 := Aside0.mk (Kd.S_mono (Kd.S_keep (IsS94.apartS (show IsS94 w0 _ g s0_0 t271 t272 from zba2) (zba3 HO_3.out) (by decide)) hk (fun _ h => h.2)) (fun _ h => h.1)); replace HL273_1 := Aside0.mk (Kd.R_mono (Kd.R_keep (IsS94.apart (show IsS94 w0 _ g s0_0 t271 t272 from zba2) (zba5 HL273_1.out) (by decide)) hk (fun _ h => h.2)) (fun _ h => h.1)); replace HL273_2 := Aside0.mk (Kd.R_mono (Kd.R_keep (IsS94.apart (show IsS94 w0 _ g s0_0 t271 t272 from zba2) (zba5 HL273_2.out) (by decide)) hk (fun _ h => h.2)) (fun _ h => h.1)); replace HK := Aside0.mk (KeepBut.trans zba0 hk (.inl rfl)); replace HB := Aside0.mk (hb); replace HI0 := Aside0.mk (hi); (try clear hb); (try clear hb2); (try clear hk); (try clear hi)))
             go_ret
             exact ⟨_, zba28, zba3 HO_3.out, zba2, zba1, zba0⟩
        ·rw [if_neg c89] at H
         exact absurd H (by simp)
       ·rw [if_neg c88] at H
        exact absurd H (by simp)
      ·replace c86 := Bool.eq_false_iff.mpr c86
       subst c86
       have H1 : (some (x3_1, x1001_78, x1002_78)) = some (r1, r2, r3) := by rw [if_neg (show ¬ (false = true) by decide)] at H; exact H
       clear H
       have H := H1
       clear H1
       simp only [Option.some.injEq, Prod.mk.injEq] at H
       obtain ⟨rfl, rfl, rfl⟩ := H
       go_wp2
       go_ret
       exact ⟨_, zba28, zba3 HO_3.out, zba2, zba1, zba0⟩

end Go.Proofs.Ytnahkojlamficaa.PFnFailing
