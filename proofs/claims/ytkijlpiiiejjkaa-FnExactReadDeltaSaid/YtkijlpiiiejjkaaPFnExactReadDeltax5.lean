-- Laid by a program of this session: a turned copy of the kit's print, with contracts by hand beside.
import Derived.Test.YtkijlpiiiejjkaaPFnExactReadDeltax0
import Derived.Test.YtkijlpiiiejjkaaPFnExactReadDeltax1
import Derived.Test.YtkijlpiiiejjkaaPFnExactReadDeltax2
import Derived.Test.YtkijlpiiiejjkaaPFnExactReadDeltax4
namespace Go.Proofs.Ytkijlpiiiejjkaa.PFnExactReadDelta
open Go.RowKit Go.Proofs.YtkijlpiiiejjkaaW.PrintWords Go.Proofs.YtkijlpiiiejjkaaW.PrintLast Go.Proofs.YtkijlpiiiejjkaaW.PrintMore
attribute [local go_sem] max2_int min2_int max_two min_two max_three min_three max_four min_four   -- for this text's walks alone
set_option linter.unusedVariables false
set_option linter.unusedSimpArgs false

/-! ### impl_ReadDelta: function 32 -/
/-- The closure that reads a number: what it computes (value, whether, the place behind). -/
def rdNum : Nat → List Int → Int → Int → Int → Option (Int × Bool × Int)
  | 0, _, _, _, _ => none
  | k + 1, b, i, n, sh => if i < (b.length : Int) then (if sh < 28 then (if 0 ≤ i then (if 0 ≤ sh then (if rd b i < 128 then some (Go.bits .or .i64 n (shl .i64 (wrap64 (Go.bits .and .u8 (rd b i) 127)) sh), !(rd b i == 0) || sh == 0, wrap64 (i + 1)) else rdNum k b (wrap64 (i + 1)) (Go.bits .or .i64 n (shl .i64 (wrap64 (Go.bits .and .u8 (rd b i) 127)) sh)) (wrap64 (sh + 7))) else none) else none) else some (0, false, i)) else some (0, false, i)
theorem rdNum_mono : ∀ k, ∀ b i n sh, LeO (rdNum k b i n sh) (rdNum (k + 1) b i n sh)
  | 0 => fun _ _ _ _ r h => by simp [rdNum] at h
  | k + 1 => fun b i n sh => by
    have ih := rdNum_mono k
    unfold rdNum
    exact LeO.ite (LeO.ite (LeO.ite (LeO.ite (LeO.ite (LeO.refl _) (ih _ _ _ _)) (LeO.refl _)) (LeO.refl _)) (LeO.refl _)) (LeO.refl _)
theorem put_refl (g : Nat) (w : World) : Put g w w := ⟨rfl, rfl, rfl, rfl, fun _ _ => rfl⟩
theorem put_trans {g : Nat} {w w1 w2 : World} (h : Put g w w1) (h2 : Put g w1 w2) : Put g w w2 := ⟨h2.os.trans h.os, h2.tape.trans h.tape, h2.output.trans h.output, h2.size.trans h.size, fun k hk => (h2.block k hk).trans (h.block k hk)⟩
theorem put_cell (w : World) (g j : Nat) (u : Value) : Put g w (w.setCell ⟨g, j, none⟩ u) := ⟨rfl, rfl, rfl, by simp [World.setCell], fun k hk => Below.heap_setCell w ⟨g, j, none⟩ u k hk⟩
/-- Only the counter's cell is another one. -/
def NumPost (gi : Nat) (w : World) (r : Int × Bool × Int) (e : Ending) (w' : World) : Prop := e = .returned (.tuple #[.int .i64 r.1, .bool r.2.1]) ∧ w'.heap[gi]? = some (.cells #[.int .i64 r.2.2] 3 (0, 0)) ∧ Put gi w w'
set_option maxHeartbeats 8000000 in
set_option maxRecDepth 100000 in
theorem rd_num (k : Nat) (gi gb : Nat) (A : Option Addr) (c : Nat) (b : List Int) (i : Int) (r : Int × Bool × Int) (w : World) (hI : w.heap[gi]? = some (.cells #[.int .i64 i] 3 (0, 0))) (hb : w.heap[gb]? = some (.cells #[.slice A b.length c] 22 (0, 0))) (hbi : gb ≠ gi) (hl : b.length ≤ c) (hr : ∀ W', Put gi w W' → Kd.C (Kd.int .u8) W' A b.length b) (h : rdNum k b i 0 0 = some r) :
    Calls Try.prog 59 #[.pointer (some ⟨gi, 0, none⟩), .pointer (some ⟨gb, 0, none⟩)] w (NumPost gi w r) := by
  have H' := Aside0.mk h
  have HI := Aside0.mk hI
  have HB := Aside0.mk hb
  have HR := Aside0.mk hr
  have HBI := Aside0.mk hbi
  clear h hI hb hr hbi
  go_enter Try.func59, Try.ntmps59
  go_wp2
  repeat (go_quiet (fail); try go_wp2)
  go_loopg [4, 5] k (fun kq v4 v5 w' => ∃ (n_1 sh_1 i_1 : Int), v4 = .int .i64 n_1 ∧ v5 = .int .i64 sh_1 ∧ Aside0 (rdNum kq b i_1 n_1 sh_1 = some r) ∧ Aside0 (kq ≤ k) ∧ Aside0 (w'.heap[gi]? = some (.cells #[.int .i64 i_1] 3 (0, 0))) ∧ Aside0 (Put gi w w'))
  case atStart => exact ⟨0, 0, i, rfl, rfl, H', ⟨Nat.le_refl _⟩, HI, ⟨put_refl _ _⟩⟩
  case round =>
    clear H' HI
    obtain ⟨n_1, sh_1, i_1, rfl, rfl, HA, HK1, HI, HP⟩ := hrel
    cases gk with
    | zero => exact absurd HA.out (by simp [rdNum])
    | succ k1 =>
      have H := HA.out
      clear HA
      simp only [rdNum] at H
      have BB := Aside0.mk ((HP.out.block gb HBI.out).trans HB.out)
      have ki_ := (blk_cell HI.out 0).trans rfl
      have kb_ := (blk_cell BB.out 0).trans rfl
      simp only [List.getElem?_toArray, List.getElem?_cons_zero] at ki_ kb_
      by_cases c1 : i_1 < (b.length : Int)
      case neg =>
        rw [if_neg c1] at H
        obtain rfl := Option.some.inj H
        have c1b : decide (i_1 < (b.length : Int)) = false := decide_eq_false c1
        clear H
        go_wp2
        repeat (go_quiet (fail); try go_wp2)
        go_ret2
        exact ⟨rfl, HI.out, HP.out⟩
      rw [if_pos c1] at H
      have c1b : decide (i_1 < (b.length : Int)) = true := decide_eq_true c1
      by_cases c2 : sh_1 < 28
      case neg =>
        rw [if_neg c2] at H
        obtain rfl := Option.some.inj H
        have c2b : decide (sh_1 < 28) = false := decide_eq_false c2
        clear H
        go_wp2
        repeat (go_quiet (fail); try go_wp2)
        go_ret2
        exact ⟨rfl, HI.out, HP.out⟩
      rw [if_pos c2] at H
      have c2b : decide (sh_1 < 28) = true := decide_eq_true c2
      clear c2
      by_cases c3 : 0 ≤ i_1
      case neg => rw [if_neg c3] at H; cases H
      rw [if_pos c3] at H
      by_cases c4 : 0 ≤ sh_1
      case neg => rw [if_neg c4] at H; cases H
      rw [if_pos c4] at H
      have c4b0 := eq_true c4
      have c4b1 : decide (0 ≤ sh_1) = true := decide_eq_true c4
      clear c4
      obtain ⟨ji, hji⟩ : ∃ j_ : Int, (shl .i64 (wrap64 (Go.bits .and .u8 (rd b i_1) 127)) sh_1) = j_ := ⟨_, rfl⟩
      simp only [hji] at H
      have hji_ : (IntKind.i64.wrap ((wrap64 (Go.bits .and .u8 (rd b i_1) 127)) * 2 ^ min sh_1.toNat 64)) = ji := hji
      have hjiz : sh_1 ≤ 64 → (IntKind.i64.wrap ((wrap64 (Go.bits .and .u8 (rd b i_1) 127)) * 2 ^ sh_1.toNat)) = ji := shl_small hji
      have hjiy : (wrap64 ((wrap64 (Go.bits .and .u8 (rd b i_1) 127)) * 2 ^ min sh_1.toNat 64)) = ji := (i64_w _).symm.trans hji_
      have hjix : sh_1 ≤ 64 → (wrap64 ((wrap64 (Go.bits .and .u8 (rd b i_1) 127)) * 2 ^ sh_1.toNat)) = ji := fun h_ => (i64_w _).symm.trans (hjiz h_)
      obtain ⟨ad, e_, hx_⟩ := Kd.at_int (HR.out _ HP.out) i_1 c3 c1
      cases e_
      have p_ := eq_true c3
      have q_ := eq_true c1
      clear c1 c3
      by_cases c9 : rd b i_1 < 128
      · rw [if_pos c9] at H
        have c9b : decide (rd b i_1 < 128) = true := decide_eq_true c9
        clear c9
        obtain rfl := Option.some.inj H
        clear H
        have kf_ := blk_frozen HI.out 0
        have HI2 : Aside0 ((wr.setCell ⟨gi, 0, none⟩ (.int .i64 (wrap64 (i_1 + 1)))).heap[gi]? = some (.cells #[.int .i64 (wrap64 (i_1 + 1))] 3 (0, 0))) := ⟨blk_put HI.out 0 _ rfl⟩
        have HP2 := Aside0.mk (put_trans HP.out (put_cell wr gi 0 (.int .i64 (wrap64 (i_1 + 1)))))
        go_wp2
        repeat (go_quiet (fail); try go_wp2)
        all_goals (go_ret2; exact ⟨by simp [*], HI2.out, HP2.out⟩)
      · rw [if_neg c9] at H
        have c9b : decide (rd b i_1 < 128) = false := decide_eq_false c9
        clear c9
        have H' := Aside0.mk H
        clear H
        have kf_ := blk_frozen HI.out 0
        have HI2 : Aside0 ((wr.setCell ⟨gi, 0, none⟩ (.int .i64 (wrap64 (i_1 + 1)))).heap[gi]? = some (.cells #[.int .i64 (wrap64 (i_1 + 1))] 3 (0, 0))) := ⟨blk_put HI.out 0 _ rfl⟩
        have HP2 := Aside0.mk (put_trans HP.out (put_cell wr gi 0 (.int .i64 (wrap64 (i_1 + 1)))))
        go_wp2
        repeat (go_quiet (fail); try go_wp2)
        go_roundg k1
        case measure => have := HK1.out; omega
        case rel => exact ⟨_, _, _, rfl, rfl, H', ⟨by have := HK1.out; omega⟩, HI2, HP2⟩

def rd_place (k : Nat) (b : List Int) (i : Int) : Option Int := (rdNum k b i 0 0).bind fun r => some r.2.2
def rd_value (k : Nat) (b : List Int) (i : Int) : Option (Int × Bool) := (rdNum k b i 0 0).bind fun r => some (r.1, r.2.1)
theorem rd_place.mono (b : List Int) (i : Int) (k : Nat) : LeO (rd_place k b i) (rd_place (k + 1) b i) := LeO.bind (rdNum_mono _ _ _ _ _) (fun _ => LeO.refl _)
theorem rd_value.mono (b : List Int) (i : Int) (k : Nat) : LeO (rd_value k b i) (rd_value (k + 1) b i) := LeO.bind (rdNum_mono _ _ _ _ _) (fun _ => LeO.refl _)
theorem rd_join {k : Nat} {b : List Int} {i p n : Int} {ok : Bool} (h1 : rd_place k b i = some p) (h2 : rd_value k b i = some (n, ok)) : rdNum k b i 0 0 = some (n, ok, p) := by
  unfold rd_place at h1
  unfold rd_value at h2
  obtain ⟨⟨x, y, z⟩, e, h1⟩ := Option.bind_eq_some_iff.mp h1
  rw [e] at h2 ⊢
  simp only [Option.bind_some, Option.some.injEq, Prod.mk.injEq] at h1 h2
  obtain ⟨rfl, rfl⟩ := h2
  rw [h1]
/-- The variables that the closure holds: i and b, each in its box. -/
structure RdS (w W : World) (gi gb : Nat) (A : Option Addr) (c : Nat) (b : List Int) (i : Int) : Prop where
  hi : W.heap[gi]? = some (.cells #[.int .i64 i] 3 (0, 0))
  hb : W.heap[gb]? = some (.cells #[.slice A b.length c] 22 (0, 0))
  ii : w.heap.size ≤ gi
  ib : w.heap.size ≤ gb
  ne : gb ≠ gi
section
variable {w W W' : World} {gi gb : Nat} {A : Option Addr} {c : Nat} {b : List Int} {i i' : Int}
theorem RdS.ki (h : RdS w W gi gb A c b i) : W.cell? ⟨gi, 0, none⟩ = some (.int .i64 i) := (blk_cell h.hi 0).trans rfl
theorem RdS.kb (h : RdS w W gi gb A c b i) : W.cell? ⟨gb, 0, none⟩ = some (.slice A b.length c) := (blk_cell h.hb 0).trans rfl
theorem RdS.below (h : RdS w W gi gb A c b i) (hb : Below W.heap.size W W') : RdS w W' gi gb A c b i := ⟨blk_below h.hi hb, blk_below h.hb hb, h.ii, h.ib, h.ne⟩
theorem RdS.grown {row : Option Nat} (h : RdS w W gi gb A c b i) (hg : W.grownBy W' row) (h1 : some gi ≠ row) (h2 : some gb ≠ row) : RdS w W' gi gb A c b i := ⟨blk_grown h.hi hg h1, blk_grown h.hb hg h2, h.ii, h.ib, h.ne⟩
theorem RdS.put (h : RdS w W gi gb A c b i) (hi : W'.heap[gi]? = some (.cells #[.int .i64 i'] 3 (0, 0))) (hp : Put gi W W') : RdS w W' gi gb A c b i' := ⟨hi, (hp.block gb h.ne).trans h.hb, h.ii, h.ib, h.ne⟩
theorem RdS.row {α : Type} {d : Kd α} {e base : Nat} {ok : Nat → Prop} {v : Value} {xs : List α} (h : RdS w W gi gb A c b i) (ho : Kd.S d e W base ok v xs) (hp : Put gi W W') (ht : ∀ q, q ∈ e :: d.E → q ≠ 3) : Kd.S d e W' base ok v xs :=
  Kd.S_mono (Kd.S_keep (g := gi) (Kd.S_types ho h.hi ht) ⟨Nat.le_of_eq hp.size.symm, fun k _ hk _ => hp.block k hk⟩ (fun _ hk => hk.2)) (fun _ hk => hk.1)
theorem put_below (h : Below w.heap.size w W) (hp : Put gi W W') (hg : w.heap.size ≤ gi) : Below w.heap.size w W' := ⟨hp.os.trans h.os, hp.tape.trans h.tape, hp.output.trans h.output, by rw [hp.size]; exact h.size, fun k hk => (hp.block k (by omega)).trans (h.block k hk)⟩
theorem RdS.start {n : Nat} {w1 w2 w3 : World} (h1 : gb = w.heap.size) (h2 : w1.heap[gb]? = some (.cells #[.slice A b.length c] 22 (0, 0))) (h3 : Below w.heap.size w w1) (h4 : gi = (w1.drewN n).heap.size) (h5 : Below (w1.drewN n).heap.size (w1.drewN n) w2) (h6 : w3.heap[gi]? = some (.cells #[.int .i64 4] 3 (0, 0))) (h7 : Put gi w2 w3) : RdS w w3 gi gb A c b 4 := by
  have hl := blk_lt h2
  have hs := h3.size
  have h4' : gi = w1.heap.size := h4
  exact ⟨h6, (h7.block gb (by omega)).trans (blk_below (w := w1.drewN n) h2 h5), by omega, by omega, by omega⟩
theorem rdS_below {n : Nat} {w1 w2 w3 : World} (h3 : Below w.heap.size w w1) (h4 : gi = (w1.drewN n).heap.size) (h5 : Below (w1.drewN n).heap.size (w1.drewN n) w2) (h7 : Put gi w2 w3) : Below w.heap.size w w3 := by
  have hs := h3.size
  have h4' : gi = w1.heap.size := h4
  exact put_below ((pw_below_drewN h3 n).trans (h5.mono (by have : (w1.drewN n).heap.size = w1.heap.size := rfl; omega))) h7 (by omega)
end
theorem rdi_info62 : (Try.prog.info? 62).map (fun i => (i.zero, i.size, i.bytes)) = some (some (.agg #[(.int .i64 0), (.int .i64 0), (.int .i64 0), (.slice none 0 0)]), 4, 48) := by kernel_rfl
mutual
def impl_ReadDelta.l0 : Nat → List Int → Int → List (S62) → Option ((List (S62)) × Bool)
  | 0, _, _, _ => none
  | k + 1, x1, x4, x6 => if x4 < (x1.length : Int) then (if 0 ≤ x4 then (if (rd x1 x4) = 1 then ((rd_place k x1 (wrap64 (x4 + 1))).bind fun t177 => ((rd_value k x1 (wrap64 (x4 + 1))).bind fun bt178 => ((rd_place k x1 t177).bind fun t180 => ((rd_value k x1 t177).bind fun bt181 => (if bt178.2 = true then (if bt181.2 = true then (impl_ReadDelta.j1 k x1 t180 x6 bt178.1 bt181.1 (bt181.1 == 0)) else (impl_ReadDelta.j1 k x1 t180 x6 bt178.1 bt181.1 true)) else (impl_ReadDelta.j1 k x1 t180 x6 bt178.1 bt181.1 true)))))) else (if (rd x1 x4) = 2 then ((rd_place k x1 (wrap64 (x4 + 1))).bind fun t186 => ((rd_value k x1 (wrap64 (x4 + 1))).bind fun bt187 => (if bt187.2 = true then (if bt187.1 = 0 then (impl_ReadDelta.j2 k x1 t186 x6 bt187.1 true) else (impl_ReadDelta.j2 k x1 t186 x6 bt187.1 (decide (bt187.1 > (wrap64 ((x1.length : Int) - t186)))))) else (impl_ReadDelta.j2 k x1 t186 x6 bt187.1 true)))) else (some (([] : List (S62)), false)))) else (none)) else (some (x6, true))
def impl_ReadDelta.j1 : Nat → List Int → Int → List (S62) → Int → Int → Bool → Option ((List (S62)) × Bool)
  | 0, _, _, _, _, _, _ => none
  | k + 1, x1, x4, x6, x8, x10, x52 => if x52 = true then (some (([] : List (S62)), false)) else (if x6.length < 2932031007402 then ((some (x6 ++ [(⟨1, x8, x10, ([] : List Int)⟩ : S62)] : List (S62))).bind fun y183 => (if (y183.length : Int) > 10000 then (some (([] : List (S62)), false)) else (impl_ReadDelta.l0 k x1 x4 y183))) else (none))
def impl_ReadDelta.j2 : Nat → List Int → Int → List (S62) → Int → Bool → Option ((List (S62)) × Bool)
  | 0, _, _, _, _, _ => none
  | k + 1, x1, x4, x6, x12, x79 => if x79 = true then (some (([] : List (S62)), false)) else ((some (([] : List Int) : List Int)).bind fun y189 => (if 0 ≤ x4 then (if x4 ≤ (wrap64 (x4 + x12)) then (if (wrap64 (x4 + x12)) ≤ (x1.length : Int) then (if y189.length + ((x1.take ((wrap64 (x4 + x12)) : Int).toNat).drop (x4 : Int).toNat).length < 140737488355328 then (if x6.length < 2932031007402 then ((some (x6 ++ [(⟨2, 0, 0, (y189 ++ ((x1.take ((wrap64 (x4 + x12)) : Int).toNat).drop (x4 : Int).toNat))⟩ : S62)] : List (S62))).bind fun y196 => (if (y196.length : Int) > 10000 then (some (([] : List (S62)), false)) else (impl_ReadDelta.l0 k x1 (wrap64 (x4 + x12)) y196))) else (none)) else (none)) else (none)) else (none)) else (none)))
end
def impl_ReadDelta.f (k : Nat) (l0 : List Int) : Option ((List (S62)) × Bool) := (strings_HasPrefix.f (strOfNums l0) (⟨#[76, 68, 84, 49]⟩ : ByteArray)).bind fun t172 => (if t172 = true then (impl_ReadDelta.l0 k l0 4 (([] : List (S62)))) else (some (([] : List (S62)), false)))
theorem impl_ReadDelta.mono_l : ∀ k, (∀ y0 y1 y2, LeO (impl_ReadDelta.l0 k y0 y1 y2) (impl_ReadDelta.l0 (k + 1) y0 y1 y2)) ∧ (∀ y0 y1 y2 y3 y4 y5, LeO (impl_ReadDelta.j1 k y0 y1 y2 y3 y4 y5) (impl_ReadDelta.j1 (k + 1) y0 y1 y2 y3 y4 y5)) ∧ (∀ y0 y1 y2 y3 y4, LeO (impl_ReadDelta.j2 k y0 y1 y2 y3 y4) (impl_ReadDelta.j2 (k + 1) y0 y1 y2 y3 y4))
  | 0 => ⟨fun _ _ _ r h => by simp [impl_ReadDelta.l0] at h, fun _ _ _ _ _ _ r h => by simp [impl_ReadDelta.j1] at h, fun _ _ _ _ _ r h => by simp [impl_ReadDelta.j2] at h⟩
  | k + 1 => by
    obtain ⟨ih0, ih1, ih2⟩ := impl_ReadDelta.mono_l k
    refine ⟨?_, ?_, ?_⟩
    · intro y0 y1 y2
      unfold impl_ReadDelta.l0
      repeat' first
      | (with_reducible exact ih0 _ _ _)
      | (with_reducible exact ih1 _ _ _ _ _ _)
      | (with_reducible exact ih2 _ _ _ _ _)
      | (with_reducible exact rd_place.mono _ _ _)
      | (with_reducible exact rd_value.mono _ _ _)
      | (with_reducible exact LeO.refl _)
      | (with_reducible exact LeO.none _)
      | (with_reducible refine LeO.ite ?_ ?_)
      | (with_reducible refine LeO.bind ?_ (fun _ => ?_))
      | exact ih0 _ _ _
      | exact ih1 _ _ _ _ _ _
      | exact ih2 _ _ _ _ _
      | exact rd_place.mono _ _ _
      | exact rd_value.mono _ _ _
      | exact LeO.none _
      | refine LeO.ite ?_ ?_
      | refine LeO.bind ?_ (fun _ => ?_)
    · intro y0 y1 y2 y3 y4 y5
      unfold impl_ReadDelta.j1
      repeat' first
      | (with_reducible exact ih0 _ _ _)
      | (with_reducible exact ih1 _ _ _ _ _ _)
      | (with_reducible exact ih2 _ _ _ _ _)
      | (with_reducible exact rd_place.mono _ _ _)
      | (with_reducible exact rd_value.mono _ _ _)
      | (with_reducible exact LeO.refl _)
      | (with_reducible exact LeO.none _)
      | (with_reducible refine LeO.ite ?_ ?_)
      | (with_reducible refine LeO.bind ?_ (fun _ => ?_))
      | exact ih0 _ _ _
      | exact ih1 _ _ _ _ _ _
      | exact ih2 _ _ _ _ _
      | exact rd_place.mono _ _ _
      | exact rd_value.mono _ _ _
      | exact LeO.none _
      | refine LeO.ite ?_ ?_
      | refine LeO.bind ?_ (fun _ => ?_)
    · intro y0 y1 y2 y3 y4
      unfold impl_ReadDelta.j2
      repeat' first
      | (with_reducible exact ih0 _ _ _)
      | (with_reducible exact ih1 _ _ _ _ _ _)
      | (with_reducible exact ih2 _ _ _ _ _)
      | (with_reducible exact rd_place.mono _ _ _)
      | (with_reducible exact rd_value.mono _ _ _)
      | (with_reducible exact LeO.refl _)
      | (with_reducible exact LeO.none _)
      | (with_reducible refine LeO.ite ?_ ?_)
      | (with_reducible refine LeO.bind ?_ (fun _ => ?_))
      | exact ih0 _ _ _
      | exact ih1 _ _ _ _ _ _
      | exact ih2 _ _ _ _ _
      | exact rd_place.mono _ _ _
      | exact rd_value.mono _ _ _
      | exact LeO.none _
      | refine LeO.ite ?_ ?_
      | refine LeO.bind ?_ (fun _ => ?_)
theorem impl_ReadDelta.mono : ∀ a0 k, LeO (impl_ReadDelta.f k a0) (impl_ReadDelta.f (k + 1) a0) := by
  intro a0 k
  obtain ⟨ih0, ih1, ih2⟩ := impl_ReadDelta.mono_l k
  unfold impl_ReadDelta.f
  repeat' first
      | (with_reducible exact ih0 _ _ _)
      | (with_reducible exact ih1 _ _ _ _ _ _)
      | (with_reducible exact ih2 _ _ _ _ _)
      | (with_reducible exact rd_place.mono _ _ _)
      | (with_reducible exact rd_value.mono _ _ _)
      | (with_reducible exact LeO.refl _)
      | (with_reducible exact LeO.none _)
      | (with_reducible refine LeO.ite ?_ ?_)
      | (with_reducible refine LeO.bind ?_ (fun _ => ?_))
      | exact ih0 _ _ _
      | exact ih1 _ _ _ _ _ _
      | exact ih2 _ _ _ _ _
      | exact rd_place.mono _ _ _
      | exact rd_value.mono _ _ _
      | exact LeO.none _
      | refine LeO.ite ?_ ?_
      | refine LeO.bind ?_ (fun _ => ?_)
set_option maxHeartbeats 8000000 in
set_option maxRecDepth 100000 in
theorem impl_ReadDelta.calls (k : Nat) (A0 : Option Addr) (c0 : Nat) (l0 : List Int) (r1 : List (S62)) (r2 : Bool) (w : World) (hr0 : Kd.C (Kd.int .u8) w A0 l0.length l0) (hc0 : l0.length ≤ c0) (h : impl_ReadDelta.f k l0 = some (r1, r2)) :
    Calls Try.prog 32 #[.slice A0 l0.length c0] w fun e w' => ∃ v0_ : Value, e = .returned (.tuple #[v0_, .bool r2]) ∧ Kd.S k62 62 w' w.heap.size (fun _ => True) v0_ r1 ∧ Below w.heap.size w w' := by
  have hu62 := Try.underlying62
  have HR0 := Aside0.mk hr0
  have HC0 := Aside0.mk hc0
  clear hr0 hc0
  have HB := Aside0.mk (Below.refl w.heap.size w)
  have H : ((strings_HasPrefix.f (strOfNums l0) (⟨#[76, 68, 84, 49]⟩ : ByteArray)).bind fun t172 => (if t172 = true then (impl_ReadDelta.l0 k l0 4 (([] : List (S62)))) else (some (([] : List (S62)), false)))) = some (r1, r2) := h
  clear h
  replace H := Option.bind_eq_some_iff.mp H
  obtain ⟨t172, A20, H⟩ := H
  replace H : (if t172 = true then (impl_ReadDelta.l0 k l0 4 (([] : List (S62)))) else (some (([] : List (S62)), false))) = some (r1, r2) := H
  have A2 := Aside0.mk A20
  clear A20
  by_cases c3 : t172 = true
  · subst c3
    have H1 : (impl_ReadDelta.l0 k l0 4 (([] : List (S62)))) = some (r1, r2) := by rw [if_pos rfl] at H; exact H
    clear H
    have H := H1
    clear H1
    obtain ⟨y173, hy173⟩ : ∃ y_ : List (S62), y_ = (([] : List (S62))) := ⟨_, rfl⟩
    replace H : (impl_ReadDelta.l0 k l0 4 y173) = some (r1, r2) := by first | (rw [hy173]; with_reducible exact H) | (have H2_ := (Option.bind_some _ _).symm.trans H; rw [hy173]; with_reducible exact H2_) | (have H2_ := (Option.bind_some _ _).symm.trans H; with_reducible exact H2_) | with_reducible exact H | (rw [hy173]; exact H) | exact H
    have Ny173 := Aside0.mk hy173
    clear hy173
    have H' := Aside0.mk H
    clear H
    have hcv4 := Kd.C_string (P := Try.prog) (A := A0) (c := c0) Try.underlying22 Try.underlying5 Try.underlying9 HR0.out
    have hmf : ∀ (fn : Fn) (first cap : Array Value) (w : World), (Instr.makeFunc fn first cap).run Try.prog w = .ok (.func fn first cap) w := fun _ _ _ _ => rfl
    go_enter Try.func32, Try.ntmps32
    go_wp2_with (first | ((with_reducible refine gate_dst (N := 1) rfl ?_); refine box_event ?bx_a (N := 1) ?bx_b (cs := #[.slice A0 l0.length c0]) (t := 22) ?bx_c ?_; (case bx_b => rfl); (case bx_a => rfl); (case bx_c => first | (go_simp; done) | (go_simp; rfl)); intro gb hg_ w1 hb_ hw_; have BX := Aside0.mk hb_; have GX := Aside0.mk hg_; have LX := Aside0.mk hw_; have z3_ := Aside0.mk hw_; have kb_ := (blk_cell hb_ 0).trans rfl; simp only [List.getElem?_toArray, List.getElem?_cons_zero] at kb_; have hcv_ := Kd.C_string (P := Try.prog) (A := A0) (c := c0) Try.underlying22 Try.underlying5 Try.underlying9 (Kd.C_below HR0.out LX.out); clear hb_ hw_ hg_ HB; have HB := z3_; clear z3_) | ((with_reducible refine gate_callee (f := 58) rfl ?_); refine goesL_ (some 16) rfl rfl Try.func58 (by kernel_rfl) rfl #[.string (strOfNums l0), .string (⟨#[76, 68, 84, 49]⟩ : ByteArray)] rfl (by (try simp only [List.map_toArray, List.map_cons, List.map_nil]); first | done | rfl | (simp only [List.length_drop, List.length_take]; rfl)) ?_; (with_reducible refine (strings_HasPrefix.calls (strOfNums l0) (⟨#[76, 68, 84, 49]⟩ : ByteArray) true _ A2.out).mono ?_); rintro e w' ⟨rfl, ⟨nd, rfl⟩⟩; refine ⟨_, rfl, ?_⟩) | ((with_reducible refine gate_dst (N := 4) rfl ?_); refine box_event ?al_a (N := 4) ?al_b (cs := #[.int .i64 0]) (t := 3) ?al_c ?_; (case al_b => rfl); (case al_a => rfl); (case al_c => first | (go_simp; done) | (go_simp; rfl)); intro gi hg_ w2 hb_ hw_; refine store_box (t := 3) (p := 4) (v := .const (.int .i64 4)) (g := gi) (off := 0) ?al_d ?al_e ?al_f (cs' := #[.int .i64 4]) (u := .int .i64 4) ?al_g ?al_h ?al_i ?al_j hb_ ?al_k ?al_l ?_; (case al_d => rfl); (case al_e => rfl); (case al_f => rfl); (case al_g => rfl); (case al_h => first | rfl | (go_simp; done) | (go_simp; rfl)); (case al_i => kernel_rfl); (case al_j => intro q_ hq_; simp [Value.cells] at hq_; subst hq_; rfl); (case al_k => exact Nat.le_refl _); (case al_l => rfl); intro w3 hi_ hp_; have ST := Aside0.mk (RdS.start GX.out BX.out LX.out hg_ hw_ hi_ hp_); have z3_ := Aside0.mk (rdS_below LX.out hg_ hw_ hp_); clear hb_ hw_ hg_ hi_ hp_ HB; have HB := z3_; clear z3_; have ki_ := ST.out.ki; have kb_ := ST.out.kb) | ((with_reducible refine gate_dst (N := 19) rfl ?_); (try (refine gate_guard (by rfl) ?_; dsimp only)); refine Kd.S_lit k62 _ 62 ?hg (N := 19) ?hd (xs := ([] : List (S62))) (inner := []) (ok := fun _ => True) (okp := fun _ => True) ?hr ?hp (fun _ hk => hk) trivial (Below.refl _ _) (Nat.le_refl _) (by simp) ?_; (case hd => rfl); (case hg => rfl); (case hr => first | (go_simp; done) | (go_simp; rfl)); (case hp => exact (Reps.none _ _)); intro v174 w5 ho6 hb hg_ hnew_; clear hg_ hnew_; (first | rw [← Ny173.out] at ho6 | (simp only [Int.reduceToNat] at ho6; rw [← Ny173.out] at ho6)); have n0_ := Aside0.mk (Kd.S_lower ho6 (below_size (by repeat (first | (with_reducible first | exact HB.out | apply below_alloc | apply pw_below_drewN | apply below_drew1) | exact HB.out)))); have n1_ := Aside0.mk (below_step (by repeat (first | (with_reducible first | exact HB.out | apply below_alloc | apply pw_below_drewN | apply below_drew1) | exact HB.out)) hb); have z1_ := Aside0.mk (ST.out.below hb); clear HB; have HO175 := n0_; have HB := n1_; clear n0_ n1_; clear hb ho6; clear ST; have ST := z1_; clear z1_; have ki_ := ST.out.ki; have kb_ := ST.out.kb))
    go_loopg [6] k (fun kq v6 w' => ∃ (x4_1 : Int) (x6_1 : List (S62)), Aside0 (impl_ReadDelta.l0 kq l0 x4_1 x6_1 = some (r1, r2)) ∧ Aside0 (kq ≤ k) ∧ Aside0 (Kd.S k62 62 w' w.heap.size (fun _ => True) v6 x6_1) ∧ Aside0 (Below w.heap.size w w') ∧ Aside0 (RdS w w' gi gb A0 c0 l0 x4_1))
    case atStart => exact ⟨(4), (y173), H', ⟨Nat.le_refl _⟩, ⟨by (with_reducible repeat (first | apply Kd.S_alloc | apply Kd.S_drewN | apply Kd.S_drew)); exact HO175.out⟩, ⟨by repeat (first | (with_reducible first | exact HB.out | apply below_alloc | apply pw_below_drewN | apply below_drew1) | exact HB.out)⟩, ST⟩
    case round =>
      clear H'
      try clear p2
      try clear c3
      try clear hcv4
      try clear c5
      obtain ⟨x4_1, x6_1, HA, HK1, HO_6, HB, ST⟩ := hrel
      have ki_ := ST.out.ki
      have kb_ := ST.out.kb
      cases gk with
      | zero => exact absurd HA.out (by simp [impl_ReadDelta.l0])
      | succ k1 =>
        have H := HA.out
        clear HA
        simp only [impl_ReadDelta.l0] at H
        by_cases c7 : x4_1 < (l0.length : Int)
        · rw [if_pos c7] at H
          have c7b0 : decide (x4_1 < (l0.length : Int)) = true := decide_eq_true c7
          clear c7
          by_cases c8 : 0 ≤ x4_1
          · rw [if_pos c8] at H
            have c8b0 : decide (0 ≤ x4_1) = true := decide_eq_true c8
            clear c8
            by_cases c9 : (rd l0 x4_1) = 1
            · rw [if_pos c9] at H
              have c9b0 : ((rd l0 x4_1) == 1) = true := beq_iff_eq.mpr c9
              have c9b1 : ((rd l0 x4_1) != 1) = false := bne_eq_false_iff_eq.mpr c9
              clear c9
              replace H := Option.bind_eq_some_iff.mp H
              obtain ⟨t177, A100, H⟩ := H
              replace H : ((rd_value k1 l0 (wrap64 (x4_1 + 1))).bind fun bt178 => ((rd_place k1 l0 t177).bind fun t180 => ((rd_value k1 l0 t177).bind fun bt181 => (if bt178.2 = true then (if bt181.2 = true then (impl_ReadDelta.j1 k1 l0 t180 x6_1 bt178.1 bt181.1 (bt181.1 == 0)) else (impl_ReadDelta.j1 k1 l0 t180 x6_1 bt178.1 bt181.1 true)) else (impl_ReadDelta.j1 k1 l0 t180 x6_1 bt178.1 bt181.1 true))))) = some (r1, r2) := H
              have A10 := Aside0.mk A100
              clear A100
              replace H := Option.bind_eq_some_iff.mp H
              obtain ⟨⟨t178, t179⟩, A110, H⟩ := H
              replace H : ((rd_place k1 l0 t177).bind fun t180 => ((rd_value k1 l0 t177).bind fun bt181 => (if t179 = true then (if bt181.2 = true then (impl_ReadDelta.j1 k1 l0 t180 x6_1 t178 bt181.1 (bt181.1 == 0)) else (impl_ReadDelta.j1 k1 l0 t180 x6_1 t178 bt181.1 true)) else (impl_ReadDelta.j1 k1 l0 t180 x6_1 t178 bt181.1 true)))) = some (r1, r2) := H
              have A11 := Aside0.mk A110
              clear A110
              replace H := Option.bind_eq_some_iff.mp H
              obtain ⟨t180, A120, H⟩ := H
              replace H : ((rd_value k1 l0 t177).bind fun bt181 => (if t179 = true then (if bt181.2 = true then (impl_ReadDelta.j1 k1 l0 t180 x6_1 t178 bt181.1 (bt181.1 == 0)) else (impl_ReadDelta.j1 k1 l0 t180 x6_1 t178 bt181.1 true)) else (impl_ReadDelta.j1 k1 l0 t180 x6_1 t178 bt181.1 true))) = some (r1, r2) := H
              have A12 := Aside0.mk A120
              clear A120
              replace H := Option.bind_eq_some_iff.mp H
              obtain ⟨⟨t181, t182⟩, A130, H⟩ := H
              replace H : (if t179 = true then (if t182 = true then (impl_ReadDelta.j1 k1 l0 t180 x6_1 t178 t181 (t181 == 0)) else (impl_ReadDelta.j1 k1 l0 t180 x6_1 t178 t181 true)) else (impl_ReadDelta.j1 k1 l0 t180 x6_1 t178 t181 true)) = some (r1, r2) := H
              have A13 := Aside0.mk A130
              clear A130
              have HC14 := Aside0.mk H
              clear H
              have p176 : 0 ≤ (x4_1 : Int) := of_decide_eq_true (by first | (with_reducible assumption) | assumption)
              have q176 : x4_1 < (l0.length : Int) := of_decide_eq_true (by first | (with_reducible assumption) | assumption)
              obtain ⟨ad176, e176, hx176_0⟩ := Kd.at_int HR0.out x4_1 p176 q176
              cases e176
              try (replace hx176_0 := (HB.out.cell (World.block_lt_of_cell? w _ hx176_0)).trans hx176_0)
              replace p176 := eq_true p176
              replace q176 := eq_true q176
              go_upto_region 14 with (first | ((with_reducible refine gate_dst (N := 29) rfl ?_); refine Kd.event_run ?q29_a (v := .int .i64 (wrap64 (x4_1 + 1))) (w1 := wr) ?q29_b ?_; (case q29_a => rfl); (case q29_b => first | (go_simp; done) | (go_simp; rfl) | (go_simp; simp only [i64_w]; done)); refine store_box (t := 3) (p := 4) (v := .tmp 29) (g := gi) (off := 0) ?q29_c ?q29_d ?q29_e (cs' := #[.int .i64 (wrap64 (x4_1 + 1))]) (u := .int .i64 (wrap64 (x4_1 + 1))) ?q29_f ?q29_g ?q29_h ?q29_i ST.out.hi ?q29_j ?q29_k ?_; (case q29_c => rfl); (case q29_d => rfl); (case q29_e => rfl); (case q29_f => rfl); (case q29_g => first | rfl | (go_simp; done) | (go_simp; rfl)); (case q29_h => kernel_rfl); (case q29_i => intro q_ hq_; simp [Value.cells] at hq_; subst hq_; rfl); (case q29_j => exact Nat.le_refl _); (case q29_k => rfl); intro wst hi_ hp_; have z1_ := Aside0.mk (ST.out.put hi_ hp_); have z2_ := Aside0.mk (ST.out.row HO_6.out hp_ (by decide)); have z3_ := Aside0.mk (put_below HB.out hp_ ST.out.ii); clear hi_ hp_ HB HO_6; have HB := z3_; have HO_6 := z2_; clear z2_ z3_; clear ST; have ST := z1_; clear z1_; have ki_ := ST.out.ki; have kb_ := ST.out.kb) | ((go_at_call 59); (with_reducible refine (rd_num k1 gi gb (some ad176) c0 l0 (wrap64 (x4_1 + 1)) (t178, t179, t177) _ ST.out.hi ST.out.hb ST.out.ne HC0.out ?wnt177_s (rd_join A10.out A11.out)).mono ?_); (case wnt177_s => intro W_ hp_; exact Kd.C_below HR0.out (put_below HB.out hp_ ST.out.ii)); rintro e_ wnt177 ⟨rfl, hi_, hp_⟩; have z1_ := Aside0.mk (ST.out.put hi_ hp_); have z2_ := Aside0.mk (ST.out.row HO_6.out hp_ (by decide)); have z3_ := Aside0.mk (put_below HB.out hp_ ST.out.ii); clear hi_ hp_ HB HO_6; have HB := z3_; have HO_6 := z2_; clear z2_ z3_; clear ST; have ST := z1_; clear z1_; have ki_ := ST.out.ki; have kb_ := ST.out.kb) | ((go_at_call 59); (with_reducible refine (rd_num k1 gi gb (some ad176) c0 l0 t177 (t181, t182, t180) _ ST.out.hi ST.out.hb ST.out.ne HC0.out ?wnt180_s (rd_join A12.out A13.out)).mono ?_); (case wnt180_s => intro W_ hp_; exact Kd.C_below HR0.out (put_below HB.out hp_ ST.out.ii)); rintro e_ wnt180 ⟨rfl, hi_, hp_⟩; have z1_ := Aside0.mk (ST.out.put hi_ hp_); have z2_ := Aside0.mk (ST.out.row HO_6.out hp_ (by decide)); have z3_ := Aside0.mk (put_below HB.out hp_ ST.out.ii); clear hi_ hp_ HB HO_6; have HB := z3_; have HO_6 := z2_; clear z2_ z3_; clear ST; have ST := z1_; clear z1_; have ki_ := ST.out.ki; have kb_ := ST.out.kb))
              (try simp only [Act.put, List.setIfInBounds_toArray, List.set_cons_zero, List.set_cons_succ])
              go_cut [52] (fun v52 wc => ∃ (kq : Nat) (x52_13 : Bool), v52 = .bool x52_13 ∧ Aside0 (impl_ReadDelta.j1 kq l0 t180 x6_1 t178 t181 x52_13 = some (r1, r2)) ∧ Aside0 (kq ≤ k1) ∧ Aside0 (Kd.S k62 62 wc w.heap.size (fun _ => True) u6 x6_1) ∧ Aside0 (Below w.heap.size w wc) ∧ Aside0 (RdS w wc gi gb (some ad176) c0 l0 t180))
              case first =>
                have H := HC14.out
                clear HC14
                by_cases c15 : t179 = true
                · subst c15
                  have H1 : (if t182 = true then (impl_ReadDelta.j1 k1 l0 t180 x6_1 t178 t181 (t181 == 0)) else (impl_ReadDelta.j1 k1 l0 t180 x6_1 t178 t181 true)) = some (r1, r2) := by rw [if_pos rfl] at H; exact H
                  clear H
                  have H := H1
                  clear H1
                  by_cases c16 : t182 = true
                  · subst c16
                    have H1 : (impl_ReadDelta.j1 k1 l0 t180 x6_1 t178 t181 (t181 == 0)) = some (r1, r2) := by rw [if_pos rfl] at H; exact H
                    clear H
                    have H := H1
                    clear H1
                    have H' := Aside0.mk H
                    clear H
                    go_wp2
                    go_meet
                    case rel => exact ⟨_, ((t181 == 0)), (by first | rfl | (simp; done) | (simp [*]; done)), H', ⟨by have := HK1.out; first | omega | exact Nat.le_refl _⟩, ⟨by (with_reducible repeat (first | apply Kd.S_alloc | apply Kd.S_drewN | apply Kd.S_drew)); exact HO_6.out⟩, ⟨by repeat (first | (with_reducible first | exact HB.out | apply below_alloc | apply pw_below_drewN | apply below_drew1) | exact HB.out)⟩, ST⟩
                  · replace c16 := Bool.eq_false_iff.mpr c16
                    subst c16
                    have H1 : (impl_ReadDelta.j1 k1 l0 t180 x6_1 t178 t181 true) = some (r1, r2) := by rw [if_neg (show ¬ (false = true) by decide)] at H; exact H
                    clear H
                    have H := H1
                    clear H1
                    have H' := Aside0.mk H
                    clear H
                    go_wp2
                    go_meet
                    case rel => exact ⟨_, (true), (by first | rfl | (simp; done) | (simp [*]; done)), H', ⟨by have := HK1.out; first | omega | exact Nat.le_refl _⟩, ⟨by (with_reducible repeat (first | apply Kd.S_alloc | apply Kd.S_drewN | apply Kd.S_drew)); exact HO_6.out⟩, ⟨by repeat (first | (with_reducible first | exact HB.out | apply below_alloc | apply pw_below_drewN | apply below_drew1) | exact HB.out)⟩, ST⟩
                · replace c15 := Bool.eq_false_iff.mpr c15
                  subst c15
                  have H1 : (impl_ReadDelta.j1 k1 l0 t180 x6_1 t178 t181 true) = some (r1, r2) := by rw [if_neg (show ¬ (false = true) by decide)] at H; exact H
                  clear H
                  have H := H1
                  clear H1
                  have H' := Aside0.mk H
                  clear H
                  go_wp2
                  go_meet
                  case rel => exact ⟨_, (true), (by first | rfl | (simp; done) | (simp [*]; done)), H', ⟨by have := HK1.out; first | omega | exact Nat.le_refl _⟩, ⟨by (with_reducible repeat (first | apply Kd.S_alloc | apply Kd.S_drewN | apply Kd.S_drew)); exact HO_6.out⟩, ⟨by repeat (first | (with_reducible first | exact HB.out | apply below_alloc | apply pw_below_drewN | apply below_drew1) | exact HB.out)⟩, ST⟩
              case rest =>
                clear HC14
                try clear c1
                try clear p1
                try clear q1
                try clear hx1
                try clear p2
                try clear c3
                try clear hcv4
                try clear c5
                try clear p6
                try clear c7
                try clear c7b0
                try clear c8
                try clear c8b0
                try clear c9
                try clear c9b0
                try clear c9b1
                try clear c15
                try clear c16
                try clear hx176_0
                try clear p176
                try clear p2
                try clear q176
                obtain ⟨kq, x52_13, rfl, HA, HJ13, HO_6, HB, ST⟩ := hcut
                have ki_ := ST.out.ki
                have kb_ := ST.out.kb
                cases kq with
                | zero => exact absurd HA.out (by simp [impl_ReadDelta.j1])
                | succ kj13 =>
                  have H := HA.out
                  clear HA
                  simp only [impl_ReadDelta.j1] at H
                  by_cases c17 : x52_13 = true
                  · subst c17
                    have H1 : (some (([] : List (S62)), false)) = some (r1, r2) := by rw [if_pos rfl] at H; exact H
                    clear H
                    have H := H1
                    clear H1
                    simp only [Option.some.injEq, Prod.mk.injEq] at H
                    obtain ⟨rfl, rfl⟩ := H
                    go_wp2
                    go_ret2
                    exact ⟨_, by first | rfl | (simp [errW_none, errW_some] <;> rfl) | (simp [*, errW_none, errW_some] <;> rfl), by first | exact Kd.S_nil _ _ _ _ _ | exact Kd.N_nil _ _ _ _ _ | exact Kd.V_nil _ _ _ _ _ | exact Kd.Q_nil _ _ _ _ _ | exact Kd.R_nil _ _ _ _ _, by repeat (first | (with_reducible first | exact HB.out | apply below_alloc | apply pw_below_drewN | apply below_drew1) | exact HB.out)⟩
                  · replace c17 := Bool.eq_false_iff.mpr c17
                    subst c17
                    have H1 : (if x6_1.length < 2932031007402 then ((some (x6_1 ++ [(⟨1, t178, t181, ([] : List Int)⟩ : S62)] : List (S62))).bind fun y183 => (if (y183.length : Int) > 10000 then (some (([] : List (S62)), false)) else (impl_ReadDelta.l0 kj13 l0 t180 y183))) else (none)) = some (r1, r2) := by rw [if_neg (show ¬ (false = true) by decide)] at H; exact H
                    clear H
                    have H := H1
                    clear H1
                    by_cases c18 : x6_1.length < 2932031007402
                    · rw [if_pos c18] at H
                      have LMc18 := Aside0.mk c18
                      clear c18
                      obtain ⟨y183, hy183⟩ : ∃ y_ : List (S62), y_ = (x6_1 ++ [(⟨1, t178, t181, ([] : List Int)⟩ : S62)]) := ⟨_, rfl⟩
                      replace H : (if (y183.length : Int) > 10000 then (some (([] : List (S62)), false)) else (impl_ReadDelta.l0 kj13 l0 t180 y183)) = some (r1, r2) := by first | (rw [hy183]; with_reducible exact H) | (have H2_ := (Option.bind_some _ _).symm.trans H; rw [hy183]; with_reducible exact H2_) | (have H2_ := (Option.bind_some _ _).symm.trans H; with_reducible exact H2_) | with_reducible exact H | (rw [hy183]; exact H) | exact H
                      have Ny183 := Aside0.mk hy183
                      clear hy183
                      by_cases c19 : (y183.length : Int) > 10000
                      · rw [if_pos c19] at H
                        have c19b0 : decide (10000 < (y183.length : Int)) = true := decide_eq_true c19
                        have c19b1 : decide (10000 < y183.length) = true := decide_eq_true (by omega)
                        clear c19
                        simp only [Option.some.injEq, Prod.mk.injEq] at H
                        obtain ⟨rfl, rfl⟩ := H
                        go_wp2_with (first | ((with_reducible refine gate_builtin (b := .append) (xs := #[.tmp 53, .tmp 57]) rfl ?_); (try (refine gate_guard (by rfl) ?_; dsimp only)); at_builtin; refine Kd.S_append k62 (w0 := w) w.heap.size rfl (.tmp 53) (.tmp 57) 23 62 (.agg #[(.int .i64 0), (.int .i64 0), (.int .i64 0), (.slice none 0 0)]) 48 rfl Try.underlying23 rdi_info62 rfl (by decide) (by omega) u6 x6_1 (⟨1, t178, t181, ([] : List Int)⟩ : S62) [.int .i64 1, .int .i64 t178, .int .i64 t181, .slice none 0 0] (fun _ => True) (fun _ => False) rfl rfl ?aP (fun k_ hk_ => hk_.elim) ?aF ?aO ?aB ?aS ?aL ?_; (case aP => exact k62_mkM _ _ _ (⟨1, t178, t181, ([] : List Int)⟩ : S62) (Kd.R_nil _ _ _ _ _)); (case aB => exact (by repeat (first | (with_reducible first | exact HB.out | apply below_alloc | apply pw_below_drewN | apply below_drew1) | exact HB.out))); (case aF => exact (fun _ _ => trivial)); (case aO => exact (by (with_reducible repeat (first | apply Kd.S_alloc | apply Kd.S_drewN | apply Kd.S_drew)); exact Kd.S_mono HO_6.out (fun k_ hk => ⟨trivial, fun e_ => e_⟩))); (case aS => exact (below_size (by repeat (first | (with_reducible first | exact HB.out | apply below_alloc | apply pw_below_drewN | apply below_drew1) | exact HB.out)))); (case aL => have := LMc18.out; omega); intro v184 w20 ho hb hg hat; rw [← Ny183.out] at ho; have z1_ := Aside0.mk (ST.out.grown hg (Kd.S_ne HO_6.out ST.out.hi (by decide)) (Kd.S_ne HO_6.out ST.out.hb (by decide))); have n0_ := Aside0.mk (hb); have n1_ := Aside0.mk (ho); clear HB; clear HO_6; have HB := n0_; have HO185 := n1_; clear n0_ n1_; clear ho hb hg hat; obtain ⟨Ao21, co21, eo21⟩ := Kd.S_slice HO185.out; subst eo21; clear ST; have ST := z1_; clear z1_; have ki_ := ST.out.ki; have kb_ := ST.out.kb))
                        go_ret2
                        exact ⟨_, by first | rfl | (simp [errW_none, errW_some] <;> rfl) | (simp [*, errW_none, errW_some] <;> rfl), by first | exact Kd.S_nil _ _ _ _ _ | exact Kd.N_nil _ _ _ _ _ | exact Kd.V_nil _ _ _ _ _ | exact Kd.Q_nil _ _ _ _ _ | exact Kd.R_nil _ _ _ _ _, by repeat (first | (with_reducible first | exact HB.out | apply below_alloc | apply pw_below_drewN | apply below_drew1) | exact HB.out)⟩
                      · rw [if_neg c19] at H
                        have c19b0 : decide (10000 < (y183.length : Int)) = false := decide_eq_false c19
                        have c19b1 : decide (10000 < y183.length) = false := decide_eq_false (by omega)
                        clear c19
                        have H' := Aside0.mk H
                        clear H
                        go_wp2_with (first | ((with_reducible refine gate_builtin (b := .append) (xs := #[.tmp 53, .tmp 57]) rfl ?_); (try (refine gate_guard (by rfl) ?_; dsimp only)); at_builtin; refine Kd.S_append k62 (w0 := w) w.heap.size rfl (.tmp 53) (.tmp 57) 23 62 (.agg #[(.int .i64 0), (.int .i64 0), (.int .i64 0), (.slice none 0 0)]) 48 rfl Try.underlying23 rdi_info62 rfl (by decide) (by omega) u6 x6_1 (⟨1, t178, t181, ([] : List Int)⟩ : S62) [.int .i64 1, .int .i64 t178, .int .i64 t181, .slice none 0 0] (fun _ => True) (fun _ => False) rfl rfl ?aP (fun k_ hk_ => hk_.elim) ?aF ?aO ?aB ?aS ?aL ?_; (case aP => exact k62_mkM _ _ _ (⟨1, t178, t181, ([] : List Int)⟩ : S62) (Kd.R_nil _ _ _ _ _)); (case aB => exact (by repeat (first | (with_reducible first | exact HB.out | apply below_alloc | apply pw_below_drewN | apply below_drew1) | exact HB.out))); (case aF => exact (fun _ _ => trivial)); (case aO => exact (by (with_reducible repeat (first | apply Kd.S_alloc | apply Kd.S_drewN | apply Kd.S_drew)); exact Kd.S_mono HO_6.out (fun k_ hk => ⟨trivial, fun e_ => e_⟩))); (case aS => exact (below_size (by repeat (first | (with_reducible first | exact HB.out | apply below_alloc | apply pw_below_drewN | apply below_drew1) | exact HB.out)))); (case aL => have := LMc18.out; omega); intro v184 w22 ho hb hg hat; rw [← Ny183.out] at ho; have z1_ := Aside0.mk (ST.out.grown hg (Kd.S_ne HO_6.out ST.out.hi (by decide)) (Kd.S_ne HO_6.out ST.out.hb (by decide))); have n0_ := Aside0.mk (hb); have n1_ := Aside0.mk (ho); clear HB; clear HO_6; have HB := n0_; have HO185 := n1_; clear n0_ n1_; clear ho hb hg hat; obtain ⟨Ao23, co23, eo23⟩ := Kd.S_slice HO185.out; subst eo23; clear ST; have ST := z1_; clear z1_; have ki_ := ST.out.ki; have kb_ := ST.out.kb))
                        go_roundg kj13
                        case measure => have := HK1.out; have := HJ13.out; omega
                        case rel => exact ⟨(t180), (y183), H', ⟨by have := HK1.out; have := HJ13.out; omega⟩, ⟨by (with_reducible repeat (first | apply Kd.S_alloc | apply Kd.S_drewN | apply Kd.S_drew)); exact HO185.out⟩, ⟨by repeat (first | (with_reducible first | exact HB.out | apply below_alloc | apply pw_below_drewN | apply below_drew1) | exact HB.out)⟩, ST⟩
                    · rw [if_neg c18] at H
                      exact absurd H (by simp)
            · rw [if_neg c9] at H
              have c9b0 : ((rd l0 x4_1) == 1) = false := beq_eq_false_iff_ne.mpr c9
              have c9b1 : ((rd l0 x4_1) != 1) = true := bne_iff_ne.mpr c9
              by_cases c24 : (rd l0 x4_1) = 2
              · rw [if_pos c24] at H
                have c24b0 : ((rd l0 x4_1) == 2) = true := beq_iff_eq.mpr c24
                have c24b1 : ((rd l0 x4_1) != 2) = false := bne_eq_false_iff_eq.mpr c24
                clear c24
                replace H := Option.bind_eq_some_iff.mp H
                obtain ⟨t186, A250, H⟩ := H
                replace H : ((rd_value k1 l0 (wrap64 (x4_1 + 1))).bind fun bt187 => (if bt187.2 = true then (if bt187.1 = 0 then (impl_ReadDelta.j2 k1 l0 t186 x6_1 bt187.1 true) else (impl_ReadDelta.j2 k1 l0 t186 x6_1 bt187.1 (decide (bt187.1 > (wrap64 ((l0.length : Int) - t186)))))) else (impl_ReadDelta.j2 k1 l0 t186 x6_1 bt187.1 true))) = some (r1, r2) := H
                have A25 := Aside0.mk A250
                clear A250
                replace H := Option.bind_eq_some_iff.mp H
                obtain ⟨⟨t187, t188⟩, A260, H⟩ := H
                replace H : (if t188 = true then (if t187 = 0 then (impl_ReadDelta.j2 k1 l0 t186 x6_1 t187 true) else (impl_ReadDelta.j2 k1 l0 t186 x6_1 t187 (decide (t187 > (wrap64 ((l0.length : Int) - t186)))))) else (impl_ReadDelta.j2 k1 l0 t186 x6_1 t187 true)) = some (r1, r2) := H
                have A26 := Aside0.mk A260
                clear A260
                have HC27 := Aside0.mk H
                clear H
                have p176 : 0 ≤ (x4_1 : Int) := of_decide_eq_true (by first | (with_reducible assumption) | assumption)
                have q176 : x4_1 < (l0.length : Int) := of_decide_eq_true (by first | (with_reducible assumption) | assumption)
                obtain ⟨ad176, e176, hx176_0⟩ := Kd.at_int HR0.out x4_1 p176 q176
                cases e176
                try (replace hx176_0 := (HB.out.cell (World.block_lt_of_cell? w _ hx176_0)).trans hx176_0)
                replace p176 := eq_true p176
                replace q176 := eq_true q176
                go_upto_region 19 with (first | ((with_reducible refine gate_dst (N := 29) rfl ?_); refine Kd.event_run ?q29_a (v := .int .i64 (wrap64 (x4_1 + 1))) (w1 := wr) ?q29_b ?_; (case q29_a => rfl); (case q29_b => first | (go_simp; done) | (go_simp; rfl) | (go_simp; simp only [i64_w]; done)); refine store_box (t := 3) (p := 4) (v := .tmp 29) (g := gi) (off := 0) ?q29_c ?q29_d ?q29_e (cs' := #[.int .i64 (wrap64 (x4_1 + 1))]) (u := .int .i64 (wrap64 (x4_1 + 1))) ?q29_f ?q29_g ?q29_h ?q29_i ST.out.hi ?q29_j ?q29_k ?_; (case q29_c => rfl); (case q29_d => rfl); (case q29_e => rfl); (case q29_f => rfl); (case q29_g => first | rfl | (go_simp; done) | (go_simp; rfl)); (case q29_h => kernel_rfl); (case q29_i => intro q_ hq_; simp [Value.cells] at hq_; subst hq_; rfl); (case q29_j => exact Nat.le_refl _); (case q29_k => rfl); intro wst hi_ hp_; have z1_ := Aside0.mk (ST.out.put hi_ hp_); have z2_ := Aside0.mk (ST.out.row HO_6.out hp_ (by decide)); have z3_ := Aside0.mk (put_below HB.out hp_ ST.out.ii); clear hi_ hp_ HB HO_6; have HB := z3_; have HO_6 := z2_; clear z2_ z3_; clear ST; have ST := z1_; clear z1_; have ki_ := ST.out.ki; have kb_ := ST.out.kb) | ((go_at_call 59); (with_reducible refine (rd_num k1 gi gb (some ad176) c0 l0 (wrap64 (x4_1 + 1)) (t187, t188, t186) _ ST.out.hi ST.out.hb ST.out.ne HC0.out ?wnt186_s (rd_join A25.out A26.out)).mono ?_); (case wnt186_s => intro W_ hp_; exact Kd.C_below HR0.out (put_below HB.out hp_ ST.out.ii)); rintro e_ wnt186 ⟨rfl, hi_, hp_⟩; have z1_ := Aside0.mk (ST.out.put hi_ hp_); have z2_ := Aside0.mk (ST.out.row HO_6.out hp_ (by decide)); have z3_ := Aside0.mk (put_below HB.out hp_ ST.out.ii); clear hi_ hp_ HB HO_6; have HB := z3_; have HO_6 := z2_; clear z2_ z3_; clear ST; have ST := z1_; clear z1_; have ki_ := ST.out.ki; have kb_ := ST.out.kb))
                (try simp only [Act.put, List.setIfInBounds_toArray, List.set_cons_zero, List.set_cons_succ])
                go_cut [79] (fun v79 wc => ∃ (kq : Nat) (x79_26 : Bool), v79 = .bool x79_26 ∧ Aside0 (impl_ReadDelta.j2 kq l0 t186 x6_1 t187 x79_26 = some (r1, r2)) ∧ Aside0 (kq ≤ k1) ∧ Aside0 (Kd.S k62 62 wc w.heap.size (fun _ => True) u6 x6_1) ∧ Aside0 (Below w.heap.size w wc) ∧ Aside0 (RdS w wc gi gb (some ad176) c0 l0 t186))
                case first =>
                  have H := HC27.out
                  clear HC27
                  by_cases c28 : t188 = true
                  · subst c28
                    have H1 : (if t187 = 0 then (impl_ReadDelta.j2 k1 l0 t186 x6_1 t187 true) else (impl_ReadDelta.j2 k1 l0 t186 x6_1 t187 (decide (t187 > (wrap64 ((l0.length : Int) - t186)))))) = some (r1, r2) := by rw [if_pos rfl] at H; exact H
                    clear H
                    have H := H1
                    clear H1
                    by_cases c29 : t187 = 0
                    · rw [if_pos c29] at H
                      have c29b0 : (t187 == 0) = true := beq_iff_eq.mpr c29
                      have c29b1 : (t187 != 0) = false := bne_eq_false_iff_eq.mpr c29
                      clear c29
                      (first | rw [c29b0] | (simp only [i64_w, i32_w]; rw [c29b0]) | skip)
                      have H' := Aside0.mk H
                      clear H
                      go_wp2
                      go_meet
                      case rel => exact ⟨_, (true), (by first | rfl | (simp; done) | (simp [*]; done)), H', ⟨by have := HK1.out; first | omega | exact Nat.le_refl _⟩, ⟨by (with_reducible repeat (first | apply Kd.S_alloc | apply Kd.S_drewN | apply Kd.S_drew)); exact HO_6.out⟩, ⟨by repeat (first | (with_reducible first | exact HB.out | apply below_alloc | apply pw_below_drewN | apply below_drew1) | exact HB.out)⟩, ST⟩
                    · rw [if_neg c29] at H
                      have c29b0 : (t187 == 0) = false := beq_eq_false_iff_ne.mpr c29
                      have c29b1 : (t187 != 0) = true := bne_iff_ne.mpr c29
                      (first | rw [c29b0] | (simp only [i64_w, i32_w]; rw [c29b0]) | skip)
                      have H' := Aside0.mk H
                      clear H
                      go_wp2
                      go_meet
                      case rel => exact ⟨_, (decide (t187 > (wrap64 ((l0.length : Int) - t186)))), (by first | rfl | (simp; done) | (simp [*]; done)), H', ⟨by have := HK1.out; first | omega | exact Nat.le_refl _⟩, ⟨by (with_reducible repeat (first | apply Kd.S_alloc | apply Kd.S_drewN | apply Kd.S_drew)); exact HO_6.out⟩, ⟨by repeat (first | (with_reducible first | exact HB.out | apply below_alloc | apply pw_below_drewN | apply below_drew1) | exact HB.out)⟩, ST⟩
                  · replace c28 := Bool.eq_false_iff.mpr c28
                    subst c28
                    have H1 : (impl_ReadDelta.j2 k1 l0 t186 x6_1 t187 true) = some (r1, r2) := by rw [if_neg (show ¬ (false = true) by decide)] at H; exact H
                    clear H
                    have H := H1
                    clear H1
                    have H' := Aside0.mk H
                    clear H
                    go_wp2
                    go_meet
                    case rel => exact ⟨_, (true), (by first | rfl | (simp; done) | (simp [*]; done)), H', ⟨by have := HK1.out; first | omega | exact Nat.le_refl _⟩, ⟨by (with_reducible repeat (first | apply Kd.S_alloc | apply Kd.S_drewN | apply Kd.S_drew)); exact HO_6.out⟩, ⟨by repeat (first | (with_reducible first | exact HB.out | apply below_alloc | apply pw_below_drewN | apply below_drew1) | exact HB.out)⟩, ST⟩
                case rest =>
                  clear HC27
                  try clear c1
                  try clear p1
                  try clear q1
                  try clear hx1
                  try clear c2
                  try clear p2
                  try clear c3
                  try clear hcv4
                  try clear c5
                  try clear p6
                  try clear c7
                  try clear c7b0
                  try clear c8
                  try clear c8b0
                  try clear c9
                  try clear c9b0
                  try clear c9b1
                  try clear c15
                  try clear c16
                  try clear c17
                  try clear p17
                  try clear q17
                  try clear hx17
                  try clear c18
                  try clear c19
                  try clear c19b0
                  try clear c19b1
                  try clear c24
                  try clear c24b0
                  try clear c24b1
                  try clear c28
                  try clear c29
                  try clear c29b0
                  try clear c29b1
                  try clear hx176_0
                  try clear p1
                  try clear p176
                  try clear p2
                  try clear p6
                  try clear q1
                  try clear q176
                  obtain ⟨kq, x79_26, rfl, HA, HJ26, HO_6, HB, ST⟩ := hcut
                  have ki_ := ST.out.ki
                  have kb_ := ST.out.kb
                  cases kq with
                  | zero => exact absurd HA.out (by simp [impl_ReadDelta.j2])
                  | succ kj26 =>
                    have H := HA.out
                    clear HA
                    simp only [impl_ReadDelta.j2] at H
                    by_cases c30 : x79_26 = true
                    · subst c30
                      have H1 : (some (([] : List (S62)), false)) = some (r1, r2) := by rw [if_pos rfl] at H; exact H
                      clear H
                      have H := H1
                      clear H1
                      simp only [Option.some.injEq, Prod.mk.injEq] at H
                      obtain ⟨rfl, rfl⟩ := H
                      go_wp2
                      go_ret2
                      exact ⟨_, by first | rfl | (simp [errW_none, errW_some] <;> rfl) | (simp [*, errW_none, errW_some] <;> rfl), by first | exact Kd.S_nil _ _ _ _ _ | exact Kd.N_nil _ _ _ _ _ | exact Kd.V_nil _ _ _ _ _ | exact Kd.Q_nil _ _ _ _ _ | exact Kd.R_nil _ _ _ _ _, by repeat (first | (with_reducible first | exact HB.out | apply below_alloc | apply pw_below_drewN | apply below_drew1) | exact HB.out)⟩
                    · replace c30 := Bool.eq_false_iff.mpr c30
                      subst c30
                      have H1 : ((some (([] : List Int) : List Int)).bind fun y189 => (if 0 ≤ t186 then (if t186 ≤ (wrap64 (t186 + t187)) then (if (wrap64 (t186 + t187)) ≤ (l0.length : Int) then (if y189.length + ((l0.take ((wrap64 (t186 + t187)) : Int).toNat).drop (t186 : Int).toNat).length < 140737488355328 then (if x6_1.length < 2932031007402 then ((some (x6_1 ++ [(⟨2, 0, 0, (y189 ++ ((l0.take ((wrap64 (t186 + t187)) : Int).toNat).drop (t186 : Int).toNat))⟩ : S62)] : List (S62))).bind fun y196 => (if (y196.length : Int) > 10000 then (some (([] : List (S62)), false)) else (impl_ReadDelta.l0 kj26 l0 (wrap64 (t186 + t187)) y196))) else (none)) else (none)) else (none)) else (none)) else (none))) = some (r1, r2) := by rw [if_neg (show ¬ (false = true) by decide)] at H; exact H
                      clear H
                      have H := H1
                      clear H1
                      obtain ⟨y189, hy189⟩ : ∃ y_ : List Int, y_ = (([] : List Int)) := ⟨_, rfl⟩
                      replace H : (if 0 ≤ t186 then (if t186 ≤ (wrap64 (t186 + t187)) then (if (wrap64 (t186 + t187)) ≤ (l0.length : Int) then (if y189.length + ((l0.take ((wrap64 (t186 + t187)) : Int).toNat).drop (t186 : Int).toNat).length < 140737488355328 then (if x6_1.length < 2932031007402 then ((some (x6_1 ++ [(⟨2, 0, 0, (y189 ++ ((l0.take ((wrap64 (t186 + t187)) : Int).toNat).drop (t186 : Int).toNat))⟩ : S62)] : List (S62))).bind fun y196 => (if (y196.length : Int) > 10000 then (some (([] : List (S62)), false)) else (impl_ReadDelta.l0 kj26 l0 (wrap64 (t186 + t187)) y196))) else (none)) else (none)) else (none)) else (none)) else (none)) = some (r1, r2) := by first | (rw [hy189]; with_reducible exact H) | (have H2_ := (Option.bind_some _ _).symm.trans H; rw [hy189]; with_reducible exact H2_) | (have H2_ := (Option.bind_some _ _).symm.trans H; with_reducible exact H2_) | with_reducible exact H | (rw [hy189]; exact H) | exact H
                      have Ny189 := Aside0.mk hy189
                      clear hy189
                      by_cases c31 : 0 ≤ t186
                      · rw [if_pos c31] at H
                        have c31b0 := eq_true c31
                        have c31b1 : decide (0 ≤ t186) = true := decide_eq_true c31
                        clear c31
                        by_cases c32 : t186 ≤ (wrap64 (t186 + t187))
                        · rw [if_pos c32] at H
                          have c32b0 := eq_true c32
                          have c32b1 : decide (t186 ≤ (wrap64 (t186 + t187))) = true := decide_eq_true c32
                          by_cases c33 : (wrap64 (t186 + t187)) ≤ (l0.length : Int)
                          · rw [if_pos c33] at H
                            have c33b0 := eq_true c33
                            have c33b1 : decide ((wrap64 (t186 + t187)) ≤ (l0.length : Int)) = true := decide_eq_true c33
                            by_cases c34 : y189.length + ((l0.take ((wrap64 (t186 + t187)) : Int).toNat).drop (t186 : Int).toNat).length < 140737488355328
                            · rw [if_pos c34] at H
                              have LMc34 := Aside0.mk c34
                              clear c34
                              obtain ⟨y193, hy193⟩ : ∃ y_ : List Int, y_ = (y189 ++ ((l0.take ((wrap64 (t186 + t187)) : Int).toNat).drop (t186 : Int).toNat)) := ⟨_, rfl⟩
                              replace H : (if x6_1.length < 2932031007402 then ((some (x6_1 ++ [(⟨2, 0, 0, y193⟩ : S62)] : List (S62))).bind fun y196 => (if (y196.length : Int) > 10000 then (some (([] : List (S62)), false)) else (impl_ReadDelta.l0 kj26 l0 (wrap64 (t186 + t187)) y196))) else (none)) = some (r1, r2) := by first | (rw [hy193]; with_reducible exact H) | (have H2_ := (Option.bind_some _ _).symm.trans H; rw [hy193]; with_reducible exact H2_) | (have H2_ := (Option.bind_some _ _).symm.trans H; with_reducible exact H2_) | with_reducible exact H | (rw [hy193]; exact H) | exact H
                              have Ny193 := Aside0.mk hy193
                              clear hy193
                              by_cases c35 : x6_1.length < 2932031007402
                              · rw [if_pos c35] at H
                                have LMc35 := Aside0.mk c35
                                clear c35
                                obtain ⟨y196, hy196⟩ : ∃ y_ : List (S62), y_ = (x6_1 ++ [(⟨2, 0, 0, y193⟩ : S62)]) := ⟨_, rfl⟩
                                replace H : (if (y196.length : Int) > 10000 then (some (([] : List (S62)), false)) else (impl_ReadDelta.l0 kj26 l0 (wrap64 (t186 + t187)) y196)) = some (r1, r2) := by first | (rw [hy196]; with_reducible exact H) | (have H2_ := (Option.bind_some _ _).symm.trans H; rw [hy196]; with_reducible exact H2_) | (have H2_ := (Option.bind_some _ _).symm.trans H; with_reducible exact H2_) | with_reducible exact H | (rw [hy196]; exact H) | exact H
                                have Ny196 := Aside0.mk hy196
                                clear hy196
                                by_cases c36 : (y196.length : Int) > 10000
                                · rw [if_pos c36] at H
                                  have c36b0 : decide (10000 < (y196.length : Int)) = true := decide_eq_true c36
                                  have c36b1 : decide (10000 < y196.length) = true := decide_eq_true (by omega)
                                  clear c36
                                  simp only [Option.some.injEq, Prod.mk.injEq] at H
                                  obtain ⟨rfl, rfl⟩ := H
                                  go_wp2_with (first | ((with_reducible refine gate_dst (N := 81) rfl ?_); (try (refine gate_guard (by rfl) ?_; dsimp only)); refine Kd.R_lit (Kd.int .u8) _ 5 ?hg (N := 81) ?hd (xs := ([] : List Int)) (inner := []) (ok := fun _ => True) (okp := fun _ => True) ?hr ?hp (fun _ hk => hk) trivial (Below.refl _ _) (Nat.le_refl _) (by simp) ?_; (case hd => rfl); (case hg => rfl); (case hr => first | (go_simp; done) | (go_simp; rfl) | (obtain ⟨_, _, e_⟩ := Kd.R_slice HO195.out; subst e_; first | (go_simp; done) | (go_simp; rfl))); (case hp => exact (Reps.none _ _)); intro v190 w37 ho38 hb hg_ hnew_; clear hg_ hnew_; (first | rw [← Ny189.out] at ho38 | (simp only [Int.reduceToNat] at ho38; rw [← Ny189.out] at ho38)); have z1_ := Aside0.mk (ST.out.below hb); have n0_ := Aside0.mk (Kd.S_elder' (by (with_reducible repeat (first | apply Kd.S_alloc | apply Kd.S_drewN | apply Kd.S_drew)); exact HO_6.out) (Kd.R_base ho38) hb); have n1_ := Aside0.mk (Kd.R_lower ho38 (below_size (by repeat (first | (with_reducible first | exact HB.out | apply below_alloc | apply pw_below_drewN | apply below_drew1) | exact HB.out)))); have n2_ := Aside0.mk (below_step (by repeat (first | (with_reducible first | exact HB.out | apply below_alloc | apply pw_below_drewN | apply below_drew1) | exact HB.out)) hb); clear HO_6; clear HB; have HO_6 := n0_; have HO191 := n1_; have HB := n2_; clear n0_ n1_ n2_; clear hb ho38; obtain ⟨i039, hi039, _, hsz39, _⟩ := info_parts info5; obtain ⟨A39, hcut39, hA39, hC39⟩ := print_mid_of (P := Try.prog) (Value.int .u8) 0 22 5 .i64 .i64 Try.underlying22 hi039 hsz39 (some ad176) c0 l0 t186 (wrap64 (t186 + t187)) (of_decide_eq_true (by first | (with_reducible assumption) | assumption)) (by first | omega | exact of_decide_eq_true (by first | (with_reducible assumption) | assumption)) (of_decide_eq_true (by first | (with_reducible assumption) | assumption)) HC0.out; have HR192 := Aside0.mk (Kd.C_of_reads (h1 := fun _ => rfl) (hA39 _ (Kd.reads_of_C HR0.out))); have HC192 := Aside0.mk hC39; clear hA39 hC39 hi039 hsz39; clear ST; have ST := z1_; clear z1_; have ki_ := ST.out.ki; have kb_ := ST.out.kb) | ((with_reducible refine gate_builtin (b := .append) (xs := #[.tmp 81, .tmp 87]) rfl ?_); (try (refine gate_guard (by rfl) ?_; dsimp only)); at_builtin; refine Kd.R_append_rows (Kd.int .u8) (w0 := w) w.heap.size rfl (.tmp 81) (.tmp 87) 22 5 (.int .u8 0) 1 rfl Try.underlying22 info5 rfl (by decide) (by omega) v190 y189 ((l0.take ((wrap64 (t186 + t187)) : Int).toNat).drop (t186 : Int).toNat) _ _ _ (fun _ => True) (fun _ => False) rfl rfl ?aO ?aR (fun _ _ h => h) (fun _ h => h.elim) ?aF ?aB ?aS ?aL ?_; (case aR => first | (rw [← show ((l0.take ((wrap64 (t186 + t187)) : Int).toNat).drop (t186 : Int).toNat).length = ((wrap64 (t186 + t187)).toNat - t186.toNat) from (by rw [List.length_drop, List.length_take]; have h_ : ((wrap64 (t186 + t187)) : Int) ≤ (l0.length : Int) := of_decide_eq_true (by first | (with_reducible assumption) | assumption); omega)]; repeat (first | exact (Kd.C_below HR192.out HB.out) | (with_reducible refine Kd.C_alloc ?_ _) | (with_reducible refine Kd.C_drewN ?_ _) | (with_reducible refine Kd.C_drew ?_))) | (repeat (first | exact (Kd.C_below HR192.out HB.out) | (with_reducible refine Kd.C_alloc ?_ _) | (with_reducible refine Kd.C_drewN ?_ _) | (with_reducible refine Kd.C_drew ?_)))); (case aB => exact (by repeat (first | (with_reducible first | exact HB.out | apply below_alloc | apply pw_below_drewN | apply below_drew1) | exact HB.out))); (case aF => exact (fun _ _ => trivial)); (case aO => exact (by (with_reducible repeat (first | apply Kd.R_alloc | apply Kd.R_drewN | apply Kd.R_drew)); exact HO191.out)); (case aS => exact (below_size (by repeat (first | (with_reducible first | exact HB.out | apply below_alloc | apply pw_below_drewN | apply below_drew1) | exact HB.out)))); (case aL => have := LMc34.out; have hlx_ := (show ((l0.take ((wrap64 (t186 + t187)) : Int).toNat).drop (t186 : Int).toNat).length = ((wrap64 (t186 + t187)).toNat - t186.toNat) from (by rw [List.length_drop, List.length_take]; have h_ : ((wrap64 (t186 + t187)) : Int) ≤ (l0.length : Int) := of_decide_eq_true (by first | (with_reducible assumption) | assumption); omega)); omega); intro v194 w40 ho hb hg hat; rw [← Ny193.out] at ho; have z1_ := Aside0.mk (ST.out.grown hg (Kd.R_ne HO191.out ST.out.hi (by decide)) (Kd.R_ne HO191.out ST.out.hb (by decide))); have n0_ := Aside0.mk (Kd.S_after (ok := (fun _ => True)) (by (with_reducible repeat (first | apply Kd.S_alloc | apply Kd.S_drewN | apply Kd.S_drew)); exact HO_6.out) hg hat); have n1_ := Aside0.mk (hb); have n2_ := Aside0.mk (ho); clear HO_6; clear HB; clear HO191; have HO_6 := n0_; have HB := n1_; have HO195 := n2_; clear n0_ n1_ n2_; clear ho hb hg hat; obtain ⟨Ao41, co41, eo41⟩ := Kd.R_slice HO195.out; subst eo41; clear ST; have ST := z1_; clear z1_; have ki_ := ST.out.ki; have kb_ := ST.out.kb) | ((with_reducible refine gate_builtin (b := .append) (xs := #[.tmp 80, .tmp 90]) rfl ?_); (try (refine gate_guard (by rfl) ?_; dsimp only)); at_builtin; refine Kd.S_append k62 (w0 := w) w.heap.size rfl (.tmp 80) (.tmp 90) 23 62 (.agg #[(.int .i64 0), (.int .i64 0), (.int .i64 0), (.slice none 0 0)]) 48 rfl Try.underlying23 rdi_info62 rfl (by decide) (by omega) u6 x6_1 (⟨2, 0, 0, y193⟩ : S62) [.int .i64 2, .int .i64 0, .int .i64 0, .slice Ao41 y193.length co41] (fun _ => True) (fun k_ => some k_ = (.slice Ao41 y193.length co41 : Value).ownBlock) rfl rfl ?aP (fun k_ hk_ => ((Kd.R_mono (ok' := fun k_ => ((fun _ => True)) k_ ∧ some k_ ≠ (u6 : Value).ownBlock) (Kd.R_apart' (HO195.out) (Kd.S_typed HO_6.out) (by decide)) (fun k_ hk => ⟨trivial, hk.2⟩))).1 k_ hk_.symm) ?aF ?aO ?aB ?aS ?aL ?_; (case aP => exact k62_mkM _ _ _ (⟨2, 0, 0, y193⟩ : S62) (Kd.R_mono (Kd.R_tight rfl (Kd.R_mono (ok' := fun k_ => ((fun _ => True)) k_ ∧ some k_ ≠ (u6 : Value).ownBlock) (Kd.R_apart' (HO195.out) (Kd.S_typed HO_6.out) (by decide)) (fun k_ hk => ⟨trivial, hk.2⟩))) (fun _ h_ => h_))); (case aB => exact (by repeat (first | (with_reducible first | exact HB.out | apply below_alloc | apply pw_below_drewN | apply below_drew1) | exact HB.out))); (case aF => exact (fun _ _ => trivial)); (case aO => exact (by (with_reducible repeat (first | apply Kd.S_alloc | apply Kd.S_drewN | apply Kd.S_drew)); exact Kd.S_mono HO_6.out (fun k_ hk => ⟨trivial, fun e_ => hk.2 e_⟩))); (case aS => exact (below_size (by repeat (first | (with_reducible first | exact HB.out | apply below_alloc | apply pw_below_drewN | apply below_drew1) | exact HB.out)))); (case aL => have := LMc35.out; omega); intro v197 w42 ho hb hg hat; rw [← Ny196.out] at ho; have z1_ := Aside0.mk (ST.out.grown hg (Kd.S_ne HO_6.out ST.out.hi (by decide)) (Kd.S_ne HO_6.out ST.out.hb (by decide))); have n0_ := Aside0.mk (hb); have n1_ := Aside0.mk (ho); clear HB; clear HO_6; clear HO195; have HB := n0_; have HO198 := n1_; clear n0_ n1_; clear ho hb hg hat; obtain ⟨Ao43, co43, eo43⟩ := Kd.S_slice HO198.out; subst eo43; clear ST; have ST := z1_; clear z1_; have ki_ := ST.out.ki; have kb_ := ST.out.kb) | ((with_reducible refine gate_dst (N := 94) rfl ?_); refine Kd.event_run ?q94_a (v := .int .i64 (wrap64 (t186 + t187))) (w1 := w42) ?q94_b ?_; (case q94_a => rfl); (case q94_b => first | (go_simp; done) | (go_simp; rfl) | (go_simp; simp only [i64_w]; done)); refine store_box (t := 3) (p := 4) (v := .tmp 94) (g := gi) (off := 0) ?q94_c ?q94_d ?q94_e (cs' := #[.int .i64 (wrap64 (t186 + t187))]) (u := .int .i64 (wrap64 (t186 + t187))) ?q94_f ?q94_g ?q94_h ?q94_i ST.out.hi ?q94_j ?q94_k ?_; (case q94_c => rfl); (case q94_d => rfl); (case q94_e => rfl); (case q94_f => rfl); (case q94_g => first | rfl | (go_simp; done) | (go_simp; rfl)); (case q94_h => kernel_rfl); (case q94_i => intro q_ hq_; simp [Value.cells] at hq_; subst hq_; rfl); (case q94_j => exact Nat.le_refl _); (case q94_k => rfl); intro wsu hi_ hp_; have z1_ := Aside0.mk (ST.out.put hi_ hp_); have z2_ := Aside0.mk (ST.out.row HO198.out hp_ (by decide)); have z3_ := Aside0.mk (put_below HB.out hp_ ST.out.ii); clear hi_ hp_ HB HO198; have HB := z3_; have HO198 := z2_; clear z2_ z3_; clear ST; have ST := z1_; clear z1_; have ki_ := ST.out.ki; have kb_ := ST.out.kb))
                                  go_ret2
                                  exact ⟨_, by first | rfl | (simp [errW_none, errW_some] <;> rfl) | (simp [*, errW_none, errW_some] <;> rfl), by first | exact Kd.S_nil _ _ _ _ _ | exact Kd.N_nil _ _ _ _ _ | exact Kd.V_nil _ _ _ _ _ | exact Kd.Q_nil _ _ _ _ _ | exact Kd.R_nil _ _ _ _ _, by repeat (first | (with_reducible first | exact HB.out | apply below_alloc | apply pw_below_drewN | apply below_drew1) | exact HB.out)⟩
                                · rw [if_neg c36] at H
                                  have c36b0 : decide (10000 < (y196.length : Int)) = false := decide_eq_false c36
                                  have c36b1 : decide (10000 < y196.length) = false := decide_eq_false (by omega)
                                  clear c36
                                  have H' := Aside0.mk H
                                  clear H
                                  go_wp2_with (first | ((with_reducible refine gate_dst (N := 81) rfl ?_); (try (refine gate_guard (by rfl) ?_; dsimp only)); refine Kd.R_lit (Kd.int .u8) _ 5 ?hg (N := 81) ?hd (xs := ([] : List Int)) (inner := []) (ok := fun _ => True) (okp := fun _ => True) ?hr ?hp (fun _ hk => hk) trivial (Below.refl _ _) (Nat.le_refl _) (by simp) ?_; (case hd => rfl); (case hg => rfl); (case hr => first | (go_simp; done) | (go_simp; rfl) | (obtain ⟨_, _, e_⟩ := Kd.R_slice HO195.out; subst e_; first | (go_simp; done) | (go_simp; rfl))); (case hp => exact (Reps.none _ _)); intro v190 w44 ho45 hb hg_ hnew_; clear hg_ hnew_; (first | rw [← Ny189.out] at ho45 | (simp only [Int.reduceToNat] at ho45; rw [← Ny189.out] at ho45)); have z1_ := Aside0.mk (ST.out.below hb); have n0_ := Aside0.mk (Kd.S_elder' (by (with_reducible repeat (first | apply Kd.S_alloc | apply Kd.S_drewN | apply Kd.S_drew)); exact HO_6.out) (Kd.R_base ho45) hb); have n1_ := Aside0.mk (Kd.R_lower ho45 (below_size (by repeat (first | (with_reducible first | exact HB.out | apply below_alloc | apply pw_below_drewN | apply below_drew1) | exact HB.out)))); have n2_ := Aside0.mk (below_step (by repeat (first | (with_reducible first | exact HB.out | apply below_alloc | apply pw_below_drewN | apply below_drew1) | exact HB.out)) hb); clear HO_6; clear HB; have HO_6 := n0_; have HO191 := n1_; have HB := n2_; clear n0_ n1_ n2_; clear hb ho45; obtain ⟨i046, hi046, _, hsz46, _⟩ := info_parts info5; obtain ⟨A46, hcut46, hA46, hC46⟩ := print_mid_of (P := Try.prog) (Value.int .u8) 0 22 5 .i64 .i64 Try.underlying22 hi046 hsz46 (some ad176) c0 l0 t186 (wrap64 (t186 + t187)) (of_decide_eq_true (by first | (with_reducible assumption) | assumption)) (by first | omega | exact of_decide_eq_true (by first | (with_reducible assumption) | assumption)) (of_decide_eq_true (by first | (with_reducible assumption) | assumption)) HC0.out; have HR192 := Aside0.mk (Kd.C_of_reads (h1 := fun _ => rfl) (hA46 _ (Kd.reads_of_C HR0.out))); have HC192 := Aside0.mk hC46; clear hA46 hC46 hi046 hsz46; clear ST; have ST := z1_; clear z1_; have ki_ := ST.out.ki; have kb_ := ST.out.kb) | ((with_reducible refine gate_builtin (b := .append) (xs := #[.tmp 81, .tmp 87]) rfl ?_); (try (refine gate_guard (by rfl) ?_; dsimp only)); at_builtin; refine Kd.R_append_rows (Kd.int .u8) (w0 := w) w.heap.size rfl (.tmp 81) (.tmp 87) 22 5 (.int .u8 0) 1 rfl Try.underlying22 info5 rfl (by decide) (by omega) v190 y189 ((l0.take ((wrap64 (t186 + t187)) : Int).toNat).drop (t186 : Int).toNat) _ _ _ (fun _ => True) (fun _ => False) rfl rfl ?aO ?aR (fun _ _ h => h) (fun _ h => h.elim) ?aF ?aB ?aS ?aL ?_; (case aR => first | (rw [← show ((l0.take ((wrap64 (t186 + t187)) : Int).toNat).drop (t186 : Int).toNat).length = ((wrap64 (t186 + t187)).toNat - t186.toNat) from (by rw [List.length_drop, List.length_take]; have h_ : ((wrap64 (t186 + t187)) : Int) ≤ (l0.length : Int) := of_decide_eq_true (by first | (with_reducible assumption) | assumption); omega)]; repeat (first | exact (Kd.C_below HR192.out HB.out) | (with_reducible refine Kd.C_alloc ?_ _) | (with_reducible refine Kd.C_drewN ?_ _) | (with_reducible refine Kd.C_drew ?_))) | (repeat (first | exact (Kd.C_below HR192.out HB.out) | (with_reducible refine Kd.C_alloc ?_ _) | (with_reducible refine Kd.C_drewN ?_ _) | (with_reducible refine Kd.C_drew ?_)))); (case aB => exact (by repeat (first | (with_reducible first | exact HB.out | apply below_alloc | apply pw_below_drewN | apply below_drew1) | exact HB.out))); (case aF => exact (fun _ _ => trivial)); (case aO => exact (by (with_reducible repeat (first | apply Kd.R_alloc | apply Kd.R_drewN | apply Kd.R_drew)); exact HO191.out)); (case aS => exact (below_size (by repeat (first | (with_reducible first | exact HB.out | apply below_alloc | apply pw_below_drewN | apply below_drew1) | exact HB.out)))); (case aL => have := LMc34.out; have hlx_ := (show ((l0.take ((wrap64 (t186 + t187)) : Int).toNat).drop (t186 : Int).toNat).length = ((wrap64 (t186 + t187)).toNat - t186.toNat) from (by rw [List.length_drop, List.length_take]; have h_ : ((wrap64 (t186 + t187)) : Int) ≤ (l0.length : Int) := of_decide_eq_true (by first | (with_reducible assumption) | assumption); omega)); omega); intro v194 w47 ho hb hg hat; rw [← Ny193.out] at ho; have z1_ := Aside0.mk (ST.out.grown hg (Kd.R_ne HO191.out ST.out.hi (by decide)) (Kd.R_ne HO191.out ST.out.hb (by decide))); have n0_ := Aside0.mk (Kd.S_after (ok := (fun _ => True)) (by (with_reducible repeat (first | apply Kd.S_alloc | apply Kd.S_drewN | apply Kd.S_drew)); exact HO_6.out) hg hat); have n1_ := Aside0.mk (hb); have n2_ := Aside0.mk (ho); clear HO_6; clear HB; clear HO191; have HO_6 := n0_; have HB := n1_; have HO195 := n2_; clear n0_ n1_ n2_; clear ho hb hg hat; obtain ⟨Ao48, co48, eo48⟩ := Kd.R_slice HO195.out; subst eo48; clear ST; have ST := z1_; clear z1_; have ki_ := ST.out.ki; have kb_ := ST.out.kb) | ((with_reducible refine gate_builtin (b := .append) (xs := #[.tmp 80, .tmp 90]) rfl ?_); (try (refine gate_guard (by rfl) ?_; dsimp only)); at_builtin; refine Kd.S_append k62 (w0 := w) w.heap.size rfl (.tmp 80) (.tmp 90) 23 62 (.agg #[(.int .i64 0), (.int .i64 0), (.int .i64 0), (.slice none 0 0)]) 48 rfl Try.underlying23 rdi_info62 rfl (by decide) (by omega) u6 x6_1 (⟨2, 0, 0, y193⟩ : S62) [.int .i64 2, .int .i64 0, .int .i64 0, .slice Ao48 y193.length co48] (fun _ => True) (fun k_ => some k_ = (.slice Ao48 y193.length co48 : Value).ownBlock) rfl rfl ?aP (fun k_ hk_ => ((Kd.R_mono (ok' := fun k_ => ((fun _ => True)) k_ ∧ some k_ ≠ (u6 : Value).ownBlock) (Kd.R_apart' (HO195.out) (Kd.S_typed HO_6.out) (by decide)) (fun k_ hk => ⟨trivial, hk.2⟩))).1 k_ hk_.symm) ?aF ?aO ?aB ?aS ?aL ?_; (case aP => exact k62_mkM _ _ _ (⟨2, 0, 0, y193⟩ : S62) (Kd.R_mono (Kd.R_tight rfl (Kd.R_mono (ok' := fun k_ => ((fun _ => True)) k_ ∧ some k_ ≠ (u6 : Value).ownBlock) (Kd.R_apart' (HO195.out) (Kd.S_typed HO_6.out) (by decide)) (fun k_ hk => ⟨trivial, hk.2⟩))) (fun _ h_ => h_))); (case aB => exact (by repeat (first | (with_reducible first | exact HB.out | apply below_alloc | apply pw_below_drewN | apply below_drew1) | exact HB.out))); (case aF => exact (fun _ _ => trivial)); (case aO => exact (by (with_reducible repeat (first | apply Kd.S_alloc | apply Kd.S_drewN | apply Kd.S_drew)); exact Kd.S_mono HO_6.out (fun k_ hk => ⟨trivial, fun e_ => hk.2 e_⟩))); (case aS => exact (below_size (by repeat (first | (with_reducible first | exact HB.out | apply below_alloc | apply pw_below_drewN | apply below_drew1) | exact HB.out)))); (case aL => have := LMc35.out; omega); intro v197 w49 ho hb hg hat; rw [← Ny196.out] at ho; have z1_ := Aside0.mk (ST.out.grown hg (Kd.S_ne HO_6.out ST.out.hi (by decide)) (Kd.S_ne HO_6.out ST.out.hb (by decide))); have n0_ := Aside0.mk (hb); have n1_ := Aside0.mk (ho); clear HB; clear HO_6; clear HO195; have HB := n0_; have HO198 := n1_; clear n0_ n1_; clear ho hb hg hat; obtain ⟨Ao50, co50, eo50⟩ := Kd.S_slice HO198.out; subst eo50; clear ST; have ST := z1_; clear z1_; have ki_ := ST.out.ki; have kb_ := ST.out.kb) | ((with_reducible refine gate_dst (N := 94) rfl ?_); refine Kd.event_run ?q94_a (v := .int .i64 (wrap64 (t186 + t187))) (w1 := w49) ?q94_b ?_; (case q94_a => rfl); (case q94_b => first | (go_simp; done) | (go_simp; rfl) | (go_simp; simp only [i64_w]; done)); refine store_box (t := 3) (p := 4) (v := .tmp 94) (g := gi) (off := 0) ?q94_c ?q94_d ?q94_e (cs' := #[.int .i64 (wrap64 (t186 + t187))]) (u := .int .i64 (wrap64 (t186 + t187))) ?q94_f ?q94_g ?q94_h ?q94_i ST.out.hi ?q94_j ?q94_k ?_; (case q94_c => rfl); (case q94_d => rfl); (case q94_e => rfl); (case q94_f => rfl); (case q94_g => first | rfl | (go_simp; done) | (go_simp; rfl)); (case q94_h => kernel_rfl); (case q94_i => intro q_ hq_; simp [Value.cells] at hq_; subst hq_; rfl); (case q94_j => exact Nat.le_refl _); (case q94_k => rfl); intro wsu hi_ hp_; have z1_ := Aside0.mk (ST.out.put hi_ hp_); have z2_ := Aside0.mk (ST.out.row HO198.out hp_ (by decide)); have z3_ := Aside0.mk (put_below HB.out hp_ ST.out.ii); clear hi_ hp_ HB HO198; have HB := z3_; have HO198 := z2_; clear z2_ z3_; clear ST; have ST := z1_; clear z1_; have ki_ := ST.out.ki; have kb_ := ST.out.kb))
                                  go_roundg kj26
                                  case measure => have := HK1.out; have := HJ26.out; omega
                                  case rel => exact ⟨(wrap64 (t186 + t187)), (y196), H', ⟨by have := HK1.out; have := HJ26.out; omega⟩, ⟨by (with_reducible repeat (first | apply Kd.S_alloc | apply Kd.S_drewN | apply Kd.S_drew)); exact HO198.out⟩, ⟨by repeat (first | (with_reducible first | exact HB.out | apply below_alloc | apply pw_below_drewN | apply below_drew1) | exact HB.out)⟩, ST⟩
                              · rw [if_neg c35] at H
                                exact absurd H (by simp)
                            · rw [if_neg c34] at H
                              exact absurd H (by simp)
                          · rw [if_neg c33] at H
                            exact absurd H (by simp)
                        · rw [if_neg c32] at H
                          exact absurd H (by simp)
                      · rw [if_neg c31] at H
                        exact absurd H (by simp)
              · rw [if_neg c24] at H
                have c24b0 : ((rd l0 x4_1) == 2) = false := beq_eq_false_iff_ne.mpr c24
                have c24b1 : ((rd l0 x4_1) != 2) = true := bne_iff_ne.mpr c24
                simp only [Option.some.injEq, Prod.mk.injEq] at H
                obtain ⟨rfl, rfl⟩ := H
                have p176 : 0 ≤ (x4_1 : Int) := of_decide_eq_true (by first | (with_reducible assumption) | assumption)
                have q176 : x4_1 < (l0.length : Int) := of_decide_eq_true (by first | (with_reducible assumption) | assumption)
                obtain ⟨ad176, e176, hx176_0⟩ := Kd.at_int HR0.out x4_1 p176 q176
                cases e176
                try (replace hx176_0 := (HB.out.cell (World.block_lt_of_cell? w _ hx176_0)).trans hx176_0)
                replace p176 := eq_true p176
                replace q176 := eq_true q176
                go_wp2_with (first | ((with_reducible refine gate_dst (N := 29) rfl ?_); refine Kd.event_run ?q29_a (v := .int .i64 (wrap64 (x4_1 + 1))) (w1 := wr) ?q29_b ?_; (case q29_a => rfl); (case q29_b => first | (go_simp; done) | (go_simp; rfl) | (go_simp; simp only [i64_w]; done)); refine store_box (t := 3) (p := 4) (v := .tmp 29) (g := gi) (off := 0) ?q29_c ?q29_d ?q29_e (cs' := #[.int .i64 (wrap64 (x4_1 + 1))]) (u := .int .i64 (wrap64 (x4_1 + 1))) ?q29_f ?q29_g ?q29_h ?q29_i ST.out.hi ?q29_j ?q29_k ?_; (case q29_c => rfl); (case q29_d => rfl); (case q29_e => rfl); (case q29_f => rfl); (case q29_g => first | rfl | (go_simp; done) | (go_simp; rfl)); (case q29_h => kernel_rfl); (case q29_i => intro q_ hq_; simp [Value.cells] at hq_; subst hq_; rfl); (case q29_j => exact Nat.le_refl _); (case q29_k => rfl); intro wst hi_ hp_; have z1_ := Aside0.mk (ST.out.put hi_ hp_); have z2_ := Aside0.mk (ST.out.row HO_6.out hp_ (by decide)); have z3_ := Aside0.mk (put_below HB.out hp_ ST.out.ii); clear hi_ hp_ HB HO_6; have HB := z3_; have HO_6 := z2_; clear z2_ z3_; clear ST; have ST := z1_; clear z1_; have ki_ := ST.out.ki; have kb_ := ST.out.kb))
                go_ret2
                exact ⟨_, by first | rfl | (simp [errW_none, errW_some] <;> rfl) | (simp [*, errW_none, errW_some] <;> rfl), by first | exact Kd.S_nil _ _ _ _ _ | exact Kd.N_nil _ _ _ _ _ | exact Kd.V_nil _ _ _ _ _ | exact Kd.Q_nil _ _ _ _ _ | exact Kd.R_nil _ _ _ _ _, by repeat (first | (with_reducible first | exact HB.out | apply below_alloc | apply pw_below_drewN | apply below_drew1) | exact HB.out)⟩
          · rw [if_neg c8] at H
            exact absurd H (by simp)
        · rw [if_neg c7] at H
          have c7b0 : decide (x4_1 < (l0.length : Int)) = false := decide_eq_false c7
          clear c7
          simp only [Option.some.injEq, Prod.mk.injEq] at H
          obtain ⟨rfl, rfl⟩ := H
          go_wp2
          go_ret2
          exact ⟨_, by first | rfl | (simp [errW_none, errW_some] <;> rfl) | (simp [*, errW_none, errW_some] <;> rfl), by (with_reducible repeat (first | apply Kd.S_alloc | apply Kd.S_drewN | apply Kd.S_drew)); exact HO_6.out, by repeat (first | (with_reducible first | exact HB.out | apply below_alloc | apply pw_below_drewN | apply below_drew1) | exact HB.out)⟩
  · replace c3 := Bool.eq_false_iff.mpr c3
    subst c3
    have H1 : (some (([] : List (S62)), false)) = some (r1, r2) := by rw [if_neg (show ¬ (false = true) by decide)] at H; exact H
    clear H
    have H := H1
    clear H1
    simp only [Option.some.injEq, Prod.mk.injEq] at H
    obtain ⟨rfl, rfl⟩ := H
    have hcv51 := Kd.C_string (P := Try.prog) (A := A0) (c := c0) Try.underlying22 Try.underlying5 Try.underlying9 HR0.out
    have hmf : ∀ (fn : Fn) (first cap : Array Value) (w : World), (Instr.makeFunc fn first cap).run Try.prog w = .ok (.func fn first cap) w := fun _ _ _ _ => rfl
    go_enter Try.func32, Try.ntmps32
    go_wp2_with (first | ((with_reducible refine gate_dst (N := 1) rfl ?_); refine box_event ?bx_a (N := 1) ?bx_b (cs := #[.slice A0 l0.length c0]) (t := 22) ?bx_c ?_; (case bx_b => rfl); (case bx_a => rfl); (case bx_c => first | (go_simp; done) | (go_simp; rfl)); intro gb hg_ w1 hb_ hw_; have BX := Aside0.mk hb_; have GX := Aside0.mk hg_; have LX := Aside0.mk hw_; have z3_ := Aside0.mk hw_; have kb_ := (blk_cell hb_ 0).trans rfl; simp only [List.getElem?_toArray, List.getElem?_cons_zero] at kb_; have hcv_ := Kd.C_string (P := Try.prog) (A := A0) (c := c0) Try.underlying22 Try.underlying5 Try.underlying9 (Kd.C_below HR0.out LX.out); clear hb_ hw_ hg_ HB; have HB := z3_; clear z3_) | ((with_reducible refine gate_callee (f := 58) rfl ?_); refine goesL_ (some 16) rfl rfl Try.func58 (by kernel_rfl) rfl #[.string (strOfNums l0), .string (⟨#[76, 68, 84, 49]⟩ : ByteArray)] rfl (by (try simp only [List.map_toArray, List.map_cons, List.map_nil]); first | done | rfl | (simp only [List.length_drop, List.length_take]; rfl)) ?_; (with_reducible refine (strings_HasPrefix.calls (strOfNums l0) (⟨#[76, 68, 84, 49]⟩ : ByteArray) false _ A2.out).mono ?_); rintro e w' ⟨rfl, ⟨nd, rfl⟩⟩; refine ⟨_, rfl, ?_⟩))
    go_ret2
    exact ⟨_, by first | rfl | (simp [errW_none, errW_some] <;> rfl) | (simp [*, errW_none, errW_some] <;> rfl), by first | exact Kd.S_nil _ _ _ _ _ | exact Kd.N_nil _ _ _ _ _ | exact Kd.V_nil _ _ _ _ _ | exact Kd.Q_nil _ _ _ _ _ | exact Kd.R_nil _ _ _ _ _, by repeat (first | (with_reducible first | exact HB.out | apply below_alloc | apply pw_below_drewN | apply below_drew1) | exact HB.out)⟩

/-! ### laws_FnExactReadDelta: function 7 -/
def laws_FnExactReadDelta.f (k : Nat) (l0 : List Int) : Option Bool := if (l0.length : Int) > 1048576 then some true else ((laws_toByteS.f k l0).bind fun a0 => ((spec_ReadDelta.f k a0).bind fun ⟨w0, w1⟩ => ((laws_toByteS.f k l0).bind fun x0 => ((impl_ReadDelta.f k x0).bind fun ⟨g0, g1⟩ => ((laws_eqStepS.f k g0 w0).bind fun t1 => (if t1 = true then (if g1 = w1 then ((laws_toByteS.f k l0).bind fun b0 => ((laws_eqByteS.f k x0 b0).bind fun t2 => (if t2 = true then ((laws_markByteS.f k x0 1).bind fun ⟨k1, z0⟩ => (if k1 < 0 then none else ((laws_eqStepS.f k g0 w0).bind fun s1 => (if s1 = true then ((laws_markStepS.f k g0 1).bind fun ⟨m1, e0⟩ => ((laws_heldStepS.f k e0 1).bind fun q1 => (if q1 < 0 then none else (if m1 = q1 then ((laws_toByteS.f k l0).bind fun d0 => ((impl_ReadDelta.f k d0).bind fun ⟨h0, h1⟩ => ((laws_eqStepS.f k h0 w0).bind fun s2 => (if s2 = true then (if g1 = h1 then ((laws_heldStepS.f k e0 1).bind fun q2 => (if m1 = q2 then (some true) else none)) else none) else none)))) else none)))) else none)))) else none))) else none) else none))))))
set_option maxHeartbeats 8000000 in
set_option maxRecDepth 100000 in
theorem laws_FnExactReadDelta.calls (k : Nat) (Al0 : Option Addr) (cl0 : Nat) (l0 : List Int) (r : Bool) (w : World) (hrl0 : Kd.C (Kd.int .u8) w Al0 l0.length l0) (hcl0 : l0.length ≤ cl0) (h : laws_FnExactReadDelta.f k l0 = some r) :
    Calls Try.prog 7 #[.slice Al0 l0.length cl0] w fun e w' => e = .returned (.bool r) ∧ Below w.heap.size w w' := by
  have HR_l0 := Aside0.mk hrl0
  have HC_l0 := Aside0.mk hcl0
  clear hrl0 hcl0
  have HB := Aside0.mk (Below.refl w.heap.size w)
  unfold laws_FnExactReadDelta.f at h
  by_cases C0 : (l0.length : Int) > 1048576
  · rw [if_pos C0] at h
    have C0a : decide (1048576 < (l0.length : Int)) = true := decide_eq_true C0
    have C0b : decide (1048576 < l0.length) = true := decide_eq_true (by omega)
    clear C0
    obtain rfl := Option.some.inj h
    clear h
    go_enter Try.func7, Try.ntmps7
    go_wp2
    go_ret
    exact ⟨rfl, by repeat (first | (with_reducible first | exact HB.out | apply below_alloc | apply pw_below_drewN | apply below_drew1) | exact HB.out)⟩
  rw [if_neg C0] at h
  have C0a : decide (1048576 < (l0.length : Int)) = false := decide_eq_false C0
  have C0b : decide (1048576 < l0.length) = false := decide_eq_false (by omega)
  clear C0
  replace h := Option.bind_eq_some_iff.mp h
  obtain ⟨a0, EE, h⟩ := h
  have E1 := Aside0.mk EE
  clear EE
  try dsimp only at h
  replace h := Option.bind_eq_some_iff.mp h
  obtain ⟨⟨w0, w1⟩, EE, h⟩ := h
  have E2 := Aside0.mk EE
  clear EE
  try dsimp only at h
  replace h := Option.bind_eq_some_iff.mp h
  obtain ⟨x0, EE, h⟩ := h
  have E3 := Aside0.mk EE
  clear EE
  try dsimp only at h
  replace h := Option.bind_eq_some_iff.mp h
  obtain ⟨⟨g0, g1⟩, EE, h⟩ := h
  have E4 := Aside0.mk EE
  clear EE
  try dsimp only at h
  replace h := Option.bind_eq_some_iff.mp h
  obtain ⟨t1, EE, h⟩ := h
  have E5 := Aside0.mk EE
  clear EE
  try dsimp only at h
  by_cases C6 : ¬ (t1 = true)
  · rw [if_neg C6] at h; exact absurd h (by simp)
  replace C6 := Classical.not_not.mp C6
  rw [if_pos C6] at h
  subst C6
  by_cases C7 : ¬ (g1 = w1)
  · rw [if_neg C7] at h; exact absurd h (by simp)
  replace C7 := Classical.not_not.mp C7
  rw [if_pos C7] at h
  subst C7
  have C7a : (g1 != g1) = false := by simp
  have C7b : (g1 == g1) = true := by simp
  replace h := Option.bind_eq_some_iff.mp h
  obtain ⟨b0, EE, h⟩ := h
  have E8 := Aside0.mk EE
  clear EE
  try dsimp only at h
  replace h := Option.bind_eq_some_iff.mp h
  obtain ⟨t2, EE, h⟩ := h
  have E9 := Aside0.mk EE
  clear EE
  try dsimp only at h
  by_cases C10 : ¬ (t2 = true)
  · rw [if_neg C10] at h; exact absurd h (by simp)
  replace C10 := Classical.not_not.mp C10
  rw [if_pos C10] at h
  subst C10
  replace h := Option.bind_eq_some_iff.mp h
  obtain ⟨⟨k1, z0⟩, EE, h⟩ := h
  have E11 := Aside0.mk EE
  clear EE
  try dsimp only at h
  by_cases C12 : k1 < 0
  · rw [if_pos C12] at h; exact absurd h (by simp)
  rw [if_neg C12] at h
  have C12a : decide (k1 < 0) = false := decide_eq_false C12
  clear C12
  replace h := Option.bind_eq_some_iff.mp h
  obtain ⟨s1, EE, h⟩ := h
  have E13 := Aside0.mk EE
  clear EE
  try dsimp only at h
  by_cases C14 : ¬ (s1 = true)
  · rw [if_neg C14] at h; exact absurd h (by simp)
  replace C14 := Classical.not_not.mp C14
  rw [if_pos C14] at h
  subst C14
  replace h := Option.bind_eq_some_iff.mp h
  obtain ⟨⟨m1, e0⟩, EE, h⟩ := h
  have E15 := Aside0.mk EE
  clear EE
  try dsimp only at h
  replace h := Option.bind_eq_some_iff.mp h
  obtain ⟨q1, EE, h⟩ := h
  have E16 := Aside0.mk EE
  clear EE
  try dsimp only at h
  by_cases C17 : q1 < 0
  · rw [if_pos C17] at h; exact absurd h (by simp)
  rw [if_neg C17] at h
  have C17a : decide (q1 < 0) = false := decide_eq_false C17
  clear C17
  by_cases C18 : ¬ (m1 = q1)
  · rw [if_neg C18] at h; exact absurd h (by simp)
  replace C18 := Classical.not_not.mp C18
  rw [if_pos C18] at h
  subst C18
  have C18a : (m1 != m1) = false := by simp
  have C18b : (m1 == m1) = true := by simp
  replace h := Option.bind_eq_some_iff.mp h
  obtain ⟨d0, EE, h⟩ := h
  have E19 := Aside0.mk EE
  clear EE
  try dsimp only at h
  replace h := Option.bind_eq_some_iff.mp h
  obtain ⟨⟨h0, h1⟩, EE, h⟩ := h
  have E20 := Aside0.mk EE
  clear EE
  try dsimp only at h
  replace h := Option.bind_eq_some_iff.mp h
  obtain ⟨s2, EE, h⟩ := h
  have E21 := Aside0.mk EE
  clear EE
  try dsimp only at h
  by_cases C22 : ¬ (s2 = true)
  · rw [if_neg C22] at h; exact absurd h (by simp)
  replace C22 := Classical.not_not.mp C22
  rw [if_pos C22] at h
  subst C22
  by_cases C23 : ¬ (g1 = h1)
  · rw [if_neg C23] at h; exact absurd h (by simp)
  replace C23 := Classical.not_not.mp C23
  rw [if_pos C23] at h
  subst C23
  have C23a : (g1 != g1) = false := by simp
  have C23b : (g1 == g1) = true := by simp
  replace h := Option.bind_eq_some_iff.mp h
  obtain ⟨q2, EE, h⟩ := h
  have E24 := Aside0.mk EE
  clear EE
  try dsimp only at h
  by_cases C25 : ¬ (m1 = q2)
  · rw [if_neg C25] at h; exact absurd h (by simp)
  replace C25 := Classical.not_not.mp C25
  rw [if_pos C25] at h
  subst C25
  have C25a : (m1 != m1) = false := by simp
  have C25b : (m1 == m1) = true := by simp
  obtain rfl := Option.some.inj h
  clear h
  go_enter Try.func7, Try.ntmps7
  go_wp2_with (first | (go_at_call 15; (with_reducible refine (laws_toByteS.calls (hr0 := (Kd.C_below HR_l0.out (by repeat (first | (with_reducible first | exact HB.out | apply below_alloc | apply pw_below_drewN | apply below_drew1) | exact HB.out)))) (hc0 := HC_l0.out) (h := E1.out)).mono ?_); rintro e w1 ⟨v0_, rfl, ho0, hb⟩; have H_a0 := Aside0.mk (show Kd.R _ _ w1 w.heap.size (fun k_ => w.heap.size ≤ k_ ∧ k_ < w1.heap.size) v0_ a0 from Kd.R_mono (Kd.R_lower (Kd.R_bound ho0) HB.out.size) (fun k_ hk_ => ⟨hk_.2.1, hk_.2.2.1⟩)); obtain ⟨A_a0, c_a0, e_a0⟩ := Kd.R_slice ho0; subst e_a0; clear ho0; have Z1 := Aside0.mk (show w.heap.size ≤ w1.heap.size from hb.size); have HB' := Aside0.mk (below_step (by repeat (first | (with_reducible first | exact HB.out | apply below_alloc | apply pw_below_drewN | apply below_drew1) | exact HB.out)) hb); clear HB; have HB := HB'; clear HB'; clear E1) | (go_at_call 31; (with_reducible refine (spec_ReadDelta.calls (hr0 := (Kd.R_reads' (by first | exact H_a0.out | exact Kd.R_drewN H_a0.out _)).2.2) (hc0 := (Kd.R_reads' H_a0.out).2.1) (h := E2.out)).mono ?_); rintro e w2 ⟨v0_, rfl, ho0, hb⟩; have H_a0' := Aside0.mk (Kd.R_below (by first | exact H_a0.out | exact Kd.R_drewN H_a0.out _) hb); have H_w0 := Aside0.mk (show Kd.N _ _ w2 w.heap.size (fun k_ => True ∧ k_ < w2.heap.size) v0_ w0 from Kd.N_mono (Kd.N_lower (Kd.N_bound ho0) HB.out.size) (fun k_ hk_ => ⟨hk_.1, hk_.2⟩)); obtain ⟨A_w0, c_w0, e_w0⟩ := Kd.N_slice ho0; subst e_w0; clear ho0; have Z2 := Aside0.mk (show w1.heap.size ≤ w2.heap.size from hb.size); have HB' := Aside0.mk (below_step (by repeat (first | (with_reducible first | exact HB.out | apply below_alloc | apply pw_below_drewN | apply below_drew1) | exact HB.out)) hb); clear HB; have HB := HB'; clear HB'; clear H_a0; have H_a0 := H_a0'; clear H_a0'; clear H_a0; clear E2) | (go_at_call 15; (with_reducible refine (laws_toByteS.calls (hr0 := (Kd.C_below HR_l0.out (by repeat (first | (with_reducible first | exact HB.out | apply below_alloc | apply pw_below_drewN | apply below_drew1) | exact HB.out)))) (hc0 := HC_l0.out) (h := E3.out)).mono ?_); rintro e w3 ⟨v0_, rfl, ho0, hb⟩; have H_w0' := Aside0.mk (Kd.N_below (by first | exact H_w0.out | exact Kd.N_drewN H_w0.out _) hb); have H_x0 := Aside0.mk (show Kd.R _ _ w3 w.heap.size (fun k_ => w2.heap.size ≤ k_ ∧ k_ < w3.heap.size) v0_ x0 from Kd.R_mono (Kd.R_lower (Kd.R_bound ho0) HB.out.size) (fun k_ hk_ => ⟨hk_.2.1, hk_.2.2.1⟩)); obtain ⟨A_x0, c_x0, e_x0⟩ := Kd.R_slice ho0; subst e_x0; clear ho0; have Z3 := Aside0.mk (show w2.heap.size ≤ w3.heap.size from hb.size); have HB' := Aside0.mk (below_step (by repeat (first | (with_reducible first | exact HB.out | apply below_alloc | apply pw_below_drewN | apply below_drew1) | exact HB.out)) hb); clear HB; have HB := HB'; clear HB'; clear H_w0; have H_w0 := H_w0'; clear H_w0'; clear E3) | (go_at_call 32; (with_reducible refine (impl_ReadDelta.calls (hr0 := (Kd.R_reads' (by first | exact H_x0.out | exact Kd.R_drewN H_x0.out _)).2.2) (hc0 := (Kd.R_reads' H_x0.out).2.1) (h := E4.out)).mono ?_); rintro e w4 ⟨v0_, rfl, ho0, hb⟩; have H_w0' := Aside0.mk (Kd.N_below (by first | exact H_w0.out | exact Kd.N_drewN H_w0.out _) hb); have H_x0' := Aside0.mk (Kd.R_below (by first | exact H_x0.out | exact Kd.R_drewN H_x0.out _) hb); have H_g0 := Aside0.mk (show Kd.S _ _ w4 w.heap.size (fun k_ => w3.heap.size ≤ k_ ∧ k_ < w4.heap.size) v0_ g0 from Kd.S_mono (Kd.S_lower (Kd.S_bound ho0) HB.out.size) (fun k_ hk_ => ⟨hk_.2.1, hk_.2.2.1⟩)); obtain ⟨A_g0, c_g0, e_g0⟩ := Kd.S_slice ho0; subst e_g0; clear ho0; have Z4 := Aside0.mk (show w3.heap.size ≤ w4.heap.size from hb.size); have HB' := Aside0.mk (below_step (by repeat (first | (with_reducible first | exact HB.out | apply below_alloc | apply pw_below_drewN | apply below_drew1) | exact HB.out)) hb); clear HB; have HB := HB'; clear HB'; clear H_w0; clear H_x0; have H_w0 := H_w0'; clear H_w0'; have H_x0 := H_x0'; clear H_x0'; clear E4) | (go_at_call 17; (with_reducible refine (laws_eqStepS.calls (hr0 := (Kd.S_reads' (by first | exact H_g0.out | exact Kd.S_drewN H_g0.out _)).2.2) (hc0 := (Kd.S_reads' H_g0.out).2.1) (hr1 := (Kd.N_reads' (by first | exact H_w0.out | exact Kd.N_drewN H_w0.out _)).2.2) (hc1 := (Kd.N_reads' H_w0.out).2.1) (h := E5.out)).mono ?_); rintro e w5 ⟨rfl, hd⟩; (first | have hb := below_of hd | have hb := hd); clear hd; have Z5 := Aside0.mk (show w4.heap.size ≤ w5.heap.size from hb.size); have HB' := Aside0.mk (below_step (by repeat (first | (with_reducible first | exact HB.out | apply below_alloc | apply pw_below_drewN | apply below_drew1) | exact HB.out)) hb); clear HB; have HB := HB'; clear HB'; have H_w0' := Aside0.mk (Kd.N_below (by first | exact H_w0.out | exact Kd.N_drewN H_w0.out _) hb); have H_x0' := Aside0.mk (Kd.R_below (by first | exact H_x0.out | exact Kd.R_drewN H_x0.out _) hb); have H_g0' := Aside0.mk (Kd.S_below (by first | exact H_g0.out | exact Kd.S_drewN H_g0.out _) hb); clear H_w0; clear H_x0; clear H_g0; have H_w0 := H_w0'; clear H_w0'; have H_x0 := H_x0'; clear H_x0'; have H_g0 := H_g0'; clear H_g0'; clear E5) | (go_at_call 15; (with_reducible refine (laws_toByteS.calls (hr0 := (Kd.C_below HR_l0.out (by repeat (first | (with_reducible first | exact HB.out | apply below_alloc | apply pw_below_drewN | apply below_drew1) | exact HB.out)))) (hc0 := HC_l0.out) (h := E8.out)).mono ?_); rintro e w6 ⟨v0_, rfl, ho0, hb⟩; have H_w0' := Aside0.mk (Kd.N_below (by first | exact H_w0.out | exact Kd.N_drewN H_w0.out _) hb); have H_x0' := Aside0.mk (Kd.R_below (by first | exact H_x0.out | exact Kd.R_drewN H_x0.out _) hb); have H_g0' := Aside0.mk (Kd.S_below (by first | exact H_g0.out | exact Kd.S_drewN H_g0.out _) hb); have H_b0 := Aside0.mk (show Kd.R _ _ w6 w.heap.size (fun k_ => w5.heap.size ≤ k_ ∧ k_ < w6.heap.size) v0_ b0 from Kd.R_mono (Kd.R_lower (Kd.R_bound ho0) HB.out.size) (fun k_ hk_ => ⟨hk_.2.1, hk_.2.2.1⟩)); obtain ⟨A_b0, c_b0, e_b0⟩ := Kd.R_slice ho0; subst e_b0; clear ho0; have Z6 := Aside0.mk (show w5.heap.size ≤ w6.heap.size from hb.size); have HB' := Aside0.mk (below_step (by repeat (first | (with_reducible first | exact HB.out | apply below_alloc | apply pw_below_drewN | apply below_drew1) | exact HB.out)) hb); clear HB; have HB := HB'; clear HB'; clear H_w0; clear H_x0; clear H_g0; have H_w0 := H_w0'; clear H_w0'; have H_x0 := H_x0'; clear H_x0'; have H_g0 := H_g0'; clear H_g0'; clear E8) | (go_at_call 18; (with_reducible refine (laws_eqByteS.calls (hr0 := (Kd.R_reads' (by first | exact H_x0.out | exact Kd.R_drewN H_x0.out _)).2.2) (hc0 := (Kd.R_reads' H_x0.out).2.1) (hr1 := (Kd.R_reads' (by first | exact H_b0.out | exact Kd.R_drewN H_b0.out _)).2.2) (hc1 := (Kd.R_reads' H_b0.out).2.1) (h := E9.out)).mono ?_); rintro e w7 ⟨rfl, hd⟩; (first | have hb := below_of hd | have hb := hd); clear hd; have Z7 := Aside0.mk (show w6.heap.size ≤ w7.heap.size from hb.size); have HB' := Aside0.mk (below_step (by repeat (first | (with_reducible first | exact HB.out | apply below_alloc | apply pw_below_drewN | apply below_drew1) | exact HB.out)) hb); clear HB; have HB := HB'; clear HB'; have H_w0' := Aside0.mk (Kd.N_below (by first | exact H_w0.out | exact Kd.N_drewN H_w0.out _) hb); have H_x0' := Aside0.mk (Kd.R_below (by first | exact H_x0.out | exact Kd.R_drewN H_x0.out _) hb); have H_g0' := Aside0.mk (Kd.S_below (by first | exact H_g0.out | exact Kd.S_drewN H_g0.out _) hb); have H_b0' := Aside0.mk (Kd.R_below (by first | exact H_b0.out | exact Kd.R_drewN H_b0.out _) hb); clear H_w0; clear H_x0; clear H_g0; clear H_b0; have H_w0 := H_w0'; clear H_w0'; have H_x0 := H_x0'; clear H_x0'; have H_g0 := H_g0'; clear H_g0'; have H_b0 := H_b0'; clear H_b0'; clear H_b0; clear E9) | (go_at_call 19; (with_reducible refine (laws_markByteS.calls (w0 := w) (hB := by repeat (first | (with_reducible first | exact HB.out | apply below_alloc | apply pw_below_drewN | apply below_drew1) | exact HB.out)) (ho0 := by first | exact H_x0.out | exact Kd.R_drewN H_x0.out _) (h := E11.out)).mono ?_); rintro e w8 ⟨rfl, ho, hb0, hk⟩; have hl := (Kd.R_reads' ho).1; have Z8 := Aside0.mk (show w7.heap.size ≤ w8.heap.size from hk.1); have H_w0' := Aside0.mk (Kd.N_kept (by first | exact H_w0.out | exact Kd.N_drewN H_w0.out _) hk (fun k_ h1_ h2_ => by have h1_ : True ∧ k_ < w2.heap.size := h1_; have h2_ : w2.heap.size ≤ k_ ∧ k_ < w3.heap.size := h2_; have := Z1.out; have := Z2.out; have := Z3.out; have := Z4.out; have := Z5.out; have := Z6.out; have := Z7.out; have := Z8.out; omega)); have H_g0' := Aside0.mk (Kd.S_kept (by first | exact H_g0.out | exact Kd.S_drewN H_g0.out _) hk (fun k_ h1_ h2_ => by have h1_ : w3.heap.size ≤ k_ ∧ k_ < w4.heap.size := h1_; have h2_ : w2.heap.size ≤ k_ ∧ k_ < w3.heap.size := h2_; have := Z1.out; have := Z2.out; have := Z3.out; have := Z4.out; have := Z5.out; have := Z6.out; have := Z7.out; have := Z8.out; omega)); have HB' := Aside0.mk hb0; clear HB; have HB := HB'; clear HB' hb0 hk; rw [hl] at ho; have H_x0' := Aside0.mk (Kd.R_bound ho); rw [hl]; clear ho; clear H_w0; clear H_x0; clear H_g0; have H_w0 := H_w0'; clear H_w0'; have H_z0 := H_x0'; clear H_x0'; have H_g0 := H_g0'; clear H_g0'; clear H_z0; clear E11) | (go_at_call 17; (with_reducible refine (laws_eqStepS.calls (hr0 := (Kd.S_reads' (by first | exact H_g0.out | exact Kd.S_drewN H_g0.out _)).2.2) (hc0 := (Kd.S_reads' H_g0.out).2.1) (hr1 := (Kd.N_reads' (by first | exact H_w0.out | exact Kd.N_drewN H_w0.out _)).2.2) (hc1 := (Kd.N_reads' H_w0.out).2.1) (h := E13.out)).mono ?_); rintro e w9 ⟨rfl, hd⟩; (first | have hb := below_of hd | have hb := hd); clear hd; have Z9 := Aside0.mk (show w8.heap.size ≤ w9.heap.size from hb.size); have HB' := Aside0.mk (below_step (by repeat (first | (with_reducible first | exact HB.out | apply below_alloc | apply pw_below_drewN | apply below_drew1) | exact HB.out)) hb); clear HB; have HB := HB'; clear HB'; have H_w0' := Aside0.mk (Kd.N_below (by first | exact H_w0.out | exact Kd.N_drewN H_w0.out _) hb); have H_g0' := Aside0.mk (Kd.S_below (by first | exact H_g0.out | exact Kd.S_drewN H_g0.out _) hb); clear H_w0; clear H_g0; have H_w0 := H_w0'; clear H_w0'; have H_g0 := H_g0'; clear H_g0'; clear E13) | (go_at_call 20; (with_reducible refine (laws_markStepS.calls (w0 := w) (hB := by repeat (first | (with_reducible first | exact HB.out | apply below_alloc | apply pw_below_drewN | apply below_drew1) | exact HB.out)) (ho0 := by first | exact H_g0.out | exact Kd.S_drewN H_g0.out _) (h := E15.out)).mono ?_); rintro e w10 ⟨rfl, ho, hb0, hk⟩; have hl := (Kd.S_reads' ho).1; have Z10 := Aside0.mk (show w9.heap.size ≤ w10.heap.size from hk.1); have H_w0' := Aside0.mk (Kd.N_kept (by first | exact H_w0.out | exact Kd.N_drewN H_w0.out _) hk (fun k_ h1_ h2_ => by have h1_ : True ∧ k_ < w2.heap.size := h1_; have h2_ : w3.heap.size ≤ k_ ∧ k_ < w4.heap.size := h2_; have := Z1.out; have := Z2.out; have := Z3.out; have := Z4.out; have := Z5.out; have := Z6.out; have := Z7.out; have := Z8.out; have := Z9.out; have := Z10.out; omega)); have HB' := Aside0.mk hb0; clear HB; have HB := HB'; clear HB' hb0 hk; rw [hl] at ho; have H_g0' := Aside0.mk (Kd.S_bound ho); rw [hl]; clear ho; clear H_w0; clear H_g0; have H_w0 := H_w0'; clear H_w0'; have H_e0 := H_g0'; clear H_g0'; clear E15) | (go_at_call 21; (with_reducible refine (laws_heldStepS.calls (hr0 := (Kd.S_reads' (by first | exact H_e0.out | exact Kd.S_drewN H_e0.out _)).2.2) (hc0 := (Kd.S_reads' H_e0.out).2.1) (h := E16.out)).mono ?_); rintro e w11 ⟨rfl, hd⟩; (first | have hb := below_of hd | have hb := hd); clear hd; have Z11 := Aside0.mk (show w10.heap.size ≤ w11.heap.size from hb.size); have HB' := Aside0.mk (below_step (by repeat (first | (with_reducible first | exact HB.out | apply below_alloc | apply pw_below_drewN | apply below_drew1) | exact HB.out)) hb); clear HB; have HB := HB'; clear HB'; have H_w0' := Aside0.mk (Kd.N_below (by first | exact H_w0.out | exact Kd.N_drewN H_w0.out _) hb); have H_e0' := Aside0.mk (Kd.S_below (by first | exact H_e0.out | exact Kd.S_drewN H_e0.out _) hb); clear H_w0; clear H_e0; have H_w0 := H_w0'; clear H_w0'; have H_e0 := H_e0'; clear H_e0'; clear E16) | (go_at_call 15; (with_reducible refine (laws_toByteS.calls (hr0 := (Kd.C_below HR_l0.out (by repeat (first | (with_reducible first | exact HB.out | apply below_alloc | apply pw_below_drewN | apply below_drew1) | exact HB.out)))) (hc0 := HC_l0.out) (h := E19.out)).mono ?_); rintro e w12 ⟨v0_, rfl, ho0, hb⟩; have H_w0' := Aside0.mk (Kd.N_below (by first | exact H_w0.out | exact Kd.N_drewN H_w0.out _) hb); have H_e0' := Aside0.mk (Kd.S_below (by first | exact H_e0.out | exact Kd.S_drewN H_e0.out _) hb); have H_d0 := Aside0.mk (show Kd.R _ _ w12 w.heap.size (fun k_ => w11.heap.size ≤ k_ ∧ k_ < w12.heap.size) v0_ d0 from Kd.R_mono (Kd.R_lower (Kd.R_bound ho0) HB.out.size) (fun k_ hk_ => ⟨hk_.2.1, hk_.2.2.1⟩)); obtain ⟨A_d0, c_d0, e_d0⟩ := Kd.R_slice ho0; subst e_d0; clear ho0; have Z12 := Aside0.mk (show w11.heap.size ≤ w12.heap.size from hb.size); have HB' := Aside0.mk (below_step (by repeat (first | (with_reducible first | exact HB.out | apply below_alloc | apply pw_below_drewN | apply below_drew1) | exact HB.out)) hb); clear HB; have HB := HB'; clear HB'; clear H_w0; clear H_e0; have H_w0 := H_w0'; clear H_w0'; have H_e0 := H_e0'; clear H_e0'; clear E19) | (go_at_call 32; (with_reducible refine (impl_ReadDelta.calls (hr0 := (Kd.R_reads' (by first | exact H_d0.out | exact Kd.R_drewN H_d0.out _)).2.2) (hc0 := (Kd.R_reads' H_d0.out).2.1) (h := E20.out)).mono ?_); rintro e w13 ⟨v0_, rfl, ho0, hb⟩; have H_w0' := Aside0.mk (Kd.N_below (by first | exact H_w0.out | exact Kd.N_drewN H_w0.out _) hb); have H_e0' := Aside0.mk (Kd.S_below (by first | exact H_e0.out | exact Kd.S_drewN H_e0.out _) hb); have H_d0' := Aside0.mk (Kd.R_below (by first | exact H_d0.out | exact Kd.R_drewN H_d0.out _) hb); have H_h0 := Aside0.mk (show Kd.S _ _ w13 w.heap.size (fun k_ => w12.heap.size ≤ k_ ∧ k_ < w13.heap.size) v0_ h0 from Kd.S_mono (Kd.S_lower (Kd.S_bound ho0) HB.out.size) (fun k_ hk_ => ⟨hk_.2.1, hk_.2.2.1⟩)); obtain ⟨A_h0, c_h0, e_h0⟩ := Kd.S_slice ho0; subst e_h0; clear ho0; have Z13 := Aside0.mk (show w12.heap.size ≤ w13.heap.size from hb.size); have HB' := Aside0.mk (below_step (by repeat (first | (with_reducible first | exact HB.out | apply below_alloc | apply pw_below_drewN | apply below_drew1) | exact HB.out)) hb); clear HB; have HB := HB'; clear HB'; clear H_w0; clear H_e0; clear H_d0; have H_w0 := H_w0'; clear H_w0'; have H_e0 := H_e0'; clear H_e0'; have H_d0 := H_d0'; clear H_d0'; clear H_d0; clear E20) | (go_at_call 17; (with_reducible refine (laws_eqStepS.calls (hr0 := (Kd.S_reads' (by first | exact H_h0.out | exact Kd.S_drewN H_h0.out _)).2.2) (hc0 := (Kd.S_reads' H_h0.out).2.1) (hr1 := (Kd.N_reads' (by first | exact H_w0.out | exact Kd.N_drewN H_w0.out _)).2.2) (hc1 := (Kd.N_reads' H_w0.out).2.1) (h := E21.out)).mono ?_); rintro e w14 ⟨rfl, hd⟩; (first | have hb := below_of hd | have hb := hd); clear hd; have Z14 := Aside0.mk (show w13.heap.size ≤ w14.heap.size from hb.size); have HB' := Aside0.mk (below_step (by repeat (first | (with_reducible first | exact HB.out | apply below_alloc | apply pw_below_drewN | apply below_drew1) | exact HB.out)) hb); clear HB; have HB := HB'; clear HB'; have H_w0' := Aside0.mk (Kd.N_below (by first | exact H_w0.out | exact Kd.N_drewN H_w0.out _) hb); have H_e0' := Aside0.mk (Kd.S_below (by first | exact H_e0.out | exact Kd.S_drewN H_e0.out _) hb); have H_h0' := Aside0.mk (Kd.S_below (by first | exact H_h0.out | exact Kd.S_drewN H_h0.out _) hb); clear H_w0; clear H_e0; clear H_h0; have H_w0 := H_w0'; clear H_w0'; have H_e0 := H_e0'; clear H_e0'; have H_h0 := H_h0'; clear H_h0'; clear H_w0; clear H_h0; clear E21) | (go_at_call 21; (with_reducible refine (laws_heldStepS.calls (hr0 := (Kd.S_reads' (by first | exact H_e0.out | exact Kd.S_drewN H_e0.out _)).2.2) (hc0 := (Kd.S_reads' H_e0.out).2.1) (h := E24.out)).mono ?_); rintro e w15 ⟨rfl, hd⟩; (first | have hb := below_of hd | have hb := hd); clear hd; have Z15 := Aside0.mk (show w14.heap.size ≤ w15.heap.size from hb.size); have HB' := Aside0.mk (below_step (by repeat (first | (with_reducible first | exact HB.out | apply below_alloc | apply pw_below_drewN | apply below_drew1) | exact HB.out)) hb); clear HB; have HB := HB'; clear HB'; have H_e0' := Aside0.mk (Kd.S_below (by first | exact H_e0.out | exact Kd.S_drewN H_e0.out _) hb); clear H_e0; have H_e0 := H_e0'; clear H_e0'; clear H_e0; clear E24))
  go_ret
  exact ⟨rfl, by repeat (first | (with_reducible first | exact HB.out | apply below_alloc | apply pw_below_drewN | apply below_drew1) | exact HB.out)⟩

/-- THE ONE PURE STATEMENT of laws_FnExactReadDelta: yours. -/
def laws_FnExactReadDelta.Pure : Prop := ∀ (l0 : List Int), (l0.length ≤ maxLen ∧ ∀ y0 ∈ l0, (Lit.int .u8 y0).wf = true) → ∃ k, laws_FnExactReadDelta.f k l0 = some true
theorem laws_FnExactReadDelta.walk (P : laws_FnExactReadDelta.Pure) (A0 : Option Addr) (c0 : Nat) (l0 : List Int) (w : World) (hr0 : Kd.C (Kd.int .u8) w A0 l0.length l0) (hc0 : l0.length ≤ c0) (ok0 : (l0.length ≤ maxLen ∧ ∀ y0 ∈ l0, (Lit.int .u8 y0).wf = true)) :
    Calls Try.prog 7 #[.slice A0 l0.length c0] w fun e w' => e = .returned (.bool true) ∧ Below w.heap.size w w' := by
  obtain ⟨k, h⟩ := P l0 ok0
  refine (laws_FnExactReadDelta.calls k _ _ l0 true w hr0 hc0 h).mono ?_
  rintro e w' ⟨rfl, hd⟩
  exact ⟨rfl, hd⟩
end Go.Proofs.Ytkijlpiiiejjkaa.PFnExactReadDelta
