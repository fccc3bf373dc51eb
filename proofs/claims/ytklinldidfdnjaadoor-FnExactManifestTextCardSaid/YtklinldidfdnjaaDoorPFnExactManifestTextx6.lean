-- Laid by a program of this session: a turned copy of the kit's print, with contracts by hand beside.
import Derived.Test.YtklinldidfdnjaaDoorPFnExactManifestTextx0
import Derived.Test.YtklinldidfdnjaaDoorPFnExactManifestTextx4
import Derived.Test.YtklinldidfdnjaaDoorPFnExactManifestTextx5
namespace Go.Proofs.YtklinldidfdnjaaDoor.PFnExactManifestText
open Go.RowKit Go.Proofs.YtklinldidfdnjaaDoorW.PrintWords Go.Proofs.YtklinldidfdnjaaDoorW.PrintLast Go.Proofs.YtklinldidfdnjaaDoorW.PrintMore
attribute [local go_sem] max2_int min2_int max_two min_two max_three min_three max_four min_four   -- for this text's walks alone
set_option linter.unusedVariables false
set_option linter.unusedSimpArgs false

/-! ### impl_ManifestText: function 22 -/
mutual
def impl_ManifestText.j0 : Nat → Bool → ByteArray → ByteArray → Int → List ByteArray → ByteArray → Int → Option (ByteArray)
  | 0, _, _, _, _, _, _, _ => none
  | k + 1, x48, x164000, x164001, x164002, x164003, x164004, x164005 => if x48 = true then (some (⟨#[]⟩ : ByteArray)) else (impl_ManifestText.l0 k x164003 (x164003.length : Int) 0 x164000 x164001 x164002 x164003 x164004 x164005)
def impl_ManifestText.l0 : Nat → List ByteArray → Int → Int → ByteArray → ByteArray → Int → List ByteArray → ByteArray → Int → Option (ByteArray)
  | 0, _, _, _, _, _, _, _, _, _ => none
  | k + 1, x50, x51, x52, x164000, x164001, x164002, x164003, x164004, x164005 => if x52 < x51 then (if 0 ≤ x52 then (if x52 < (x50.length : Int) then ((impl_AddressOk.f k (rdOf ByteArray.empty x50 x52)).bind fun t170 => (if t170 = true then (impl_ManifestText.l0 k x50 x51 (wrap64 (x52 + 1)) x164000 x164001 x164002 x164003 x164004 x164005) else (some (⟨#[]⟩ : ByteArray)))) else (none)) else (none)) else ((impl_manifestHead.f k x164000 x164001 x164002 x164003 x164004 x164005).bind fun t171 => (if t171.size + 4 ≤ 9223372036854775807 then (if (t171 ++ (⟨#[107, 101, 121, 32]⟩ : ByteArray)).size + x164004.size ≤ 9223372036854775807 then (if ((t171 ++ (⟨#[107, 101, 121, 32]⟩ : ByteArray)) ++ x164004).size + 5 ≤ 9223372036854775807 then ((impl_Word32.f k x164005).bind fun t172 => (if (((t171 ++ (⟨#[107, 101, 121, 32]⟩ : ByteArray)) ++ x164004) ++ (⟨#[10, 115, 105, 103, 32]⟩ : ByteArray)).size + t172.size ≤ 9223372036854775807 then (if ((((t171 ++ (⟨#[107, 101, 121, 32]⟩ : ByteArray)) ++ x164004) ++ (⟨#[10, 115, 105, 103, 32]⟩ : ByteArray)) ++ t172).size + 1 ≤ 9223372036854775807 then (some (((((t171 ++ (⟨#[107, 101, 121, 32]⟩ : ByteArray)) ++ x164004) ++ (⟨#[10, 115, 105, 103, 32]⟩ : ByteArray)) ++ t172) ++ (⟨#[10]⟩ : ByteArray))) else (none)) else (none))) else (none)) else (none)) else (none)))
end
def impl_ManifestText.f (k : Nat) (a0_0 : ByteArray) (a0_1 : ByteArray) (a0_2 : Int) (l0_3 : List ByteArray) (a0_4 : ByteArray) (a0_5 : Int) : Option (ByteArray) := (impl_ReadWord32.f k a0_1).bind fun bt164 => ((impl_AddressOk.f k a0_0).bind fun t166 => (if t166 = true then (if bt164.2 = true then (if a0_2 < 0 then (impl_ManifestText.j0 k true a0_0 a0_1 a0_2 l0_3 a0_4 a0_5) else (if a0_2 > 1000000 then (impl_ManifestText.j0 k true a0_0 a0_1 a0_2 l0_3 a0_4 a0_5) else (if (l0_3.length : Int) > 300 then (impl_ManifestText.j0 k true a0_0 a0_1 a0_2 l0_3 a0_4 a0_5) else ((impl_rising_hs.f k l0_3).bind fun t167 => (if t167 = true then ((impl_NameOk.f k a0_4).bind fun t168 => (impl_ManifestText.j0 k (!t168) a0_0 a0_1 a0_2 l0_3 a0_4 a0_5)) else (impl_ManifestText.j0 k true a0_0 a0_1 a0_2 l0_3 a0_4 a0_5)))))) else (impl_ManifestText.j0 k true a0_0 a0_1 a0_2 l0_3 a0_4 a0_5)) else (impl_ManifestText.j0 k true a0_0 a0_1 a0_2 l0_3 a0_4 a0_5)))
theorem impl_ManifestText.mono_l : ∀ k, (∀ y0 y1 y2 y3 y4 y5 y6, LeO (impl_ManifestText.j0 k y0 y1 y2 y3 y4 y5 y6) (impl_ManifestText.j0 (k + 1) y0 y1 y2 y3 y4 y5 y6)) ∧ (∀ y0 y1 y2 y3 y4 y5 y6 y7 y8, LeO (impl_ManifestText.l0 k y0 y1 y2 y3 y4 y5 y6 y7 y8) (impl_ManifestText.l0 (k + 1) y0 y1 y2 y3 y4 y5 y6 y7 y8))
  | 0 => ⟨fun _ _ _ _ _ _ _ r h => by simp [impl_ManifestText.j0] at h, fun _ _ _ _ _ _ _ _ _ r h => by simp [impl_ManifestText.l0] at h⟩
  | k + 1 => by
    obtain ⟨ih0, ih1⟩ := impl_ManifestText.mono_l k
    refine ⟨?_, ?_⟩
    · intro y0 y1 y2 y3 y4 y5 y6
      unfold impl_ManifestText.j0
      repeat' first
      | (with_reducible exact ih0 _ _ _ _ _ _ _)
      | (with_reducible exact ih1 _ _ _ _ _ _ _ _ _)
      | (with_reducible exact impl_AddressOk.mono _ _)
      | (with_reducible exact impl_NameOk.mono _ _)
      | (with_reducible exact impl_ReadWord32.mono _ _)
      | (with_reducible exact impl_Word32.mono _ _)
      | (with_reducible exact impl_manifestHead.mono _ _ _ _ _ _ _)
      | (with_reducible exact impl_rising_hs.mono _ _)
      | (with_reducible exact LeO.refl _)
      | (with_reducible exact LeO.none _)
      | (with_reducible refine LeO.ite ?_ ?_)
      | (with_reducible refine LeO.bind ?_ (fun _ => ?_))
      | exact ih0 _ _ _ _ _ _ _
      | exact ih1 _ _ _ _ _ _ _ _ _
      | exact impl_AddressOk.mono _ _
      | exact impl_NameOk.mono _ _
      | exact impl_ReadWord32.mono _ _
      | exact impl_Word32.mono _ _
      | exact impl_manifestHead.mono _ _ _ _ _ _ _
      | exact impl_rising_hs.mono _ _
      | exact LeO.none _
      | refine LeO.ite ?_ ?_
      | refine LeO.bind ?_ (fun _ => ?_)
    · intro y0 y1 y2 y3 y4 y5 y6 y7 y8
      unfold impl_ManifestText.l0
      repeat' first
      | (with_reducible exact ih0 _ _ _ _ _ _ _)
      | (with_reducible exact ih1 _ _ _ _ _ _ _ _ _)
      | (with_reducible exact impl_AddressOk.mono _ _)
      | (with_reducible exact impl_NameOk.mono _ _)
      | (with_reducible exact impl_ReadWord32.mono _ _)
      | (with_reducible exact impl_Word32.mono _ _)
      | (with_reducible exact impl_manifestHead.mono _ _ _ _ _ _ _)
      | (with_reducible exact impl_rising_hs.mono _ _)
      | (with_reducible exact LeO.refl _)
      | (with_reducible exact LeO.none _)
      | (with_reducible refine LeO.ite ?_ ?_)
      | (with_reducible refine LeO.bind ?_ (fun _ => ?_))
      | exact ih0 _ _ _ _ _ _ _
      | exact ih1 _ _ _ _ _ _ _ _ _
      | exact impl_AddressOk.mono _ _
      | exact impl_NameOk.mono _ _
      | exact impl_ReadWord32.mono _ _
      | exact impl_Word32.mono _ _
      | exact impl_manifestHead.mono _ _ _ _ _ _ _
      | exact impl_rising_hs.mono _ _
      | exact LeO.none _
      | refine LeO.ite ?_ ?_
      | refine LeO.bind ?_ (fun _ => ?_)
theorem impl_ManifestText.mono : ∀ a0 a1 a2 a3 a4 a5 k, LeO (impl_ManifestText.f k a0 a1 a2 a3 a4 a5) (impl_ManifestText.f (k + 1) a0 a1 a2 a3 a4 a5) := by
  intro a0 a1 a2 a3 a4 a5 k
  obtain ⟨ih0, ih1⟩ := impl_ManifestText.mono_l k
  unfold impl_ManifestText.f
  repeat' first
      | (with_reducible exact ih0 _ _ _ _ _ _ _)
      | (with_reducible exact ih1 _ _ _ _ _ _ _ _ _)
      | (with_reducible exact impl_AddressOk.mono _ _)
      | (with_reducible exact impl_NameOk.mono _ _)
      | (with_reducible exact impl_ReadWord32.mono _ _)
      | (with_reducible exact impl_Word32.mono _ _)
      | (with_reducible exact impl_manifestHead.mono _ _ _ _ _ _ _)
      | (with_reducible exact impl_rising_hs.mono _ _)
      | (with_reducible exact LeO.refl _)
      | (with_reducible exact LeO.none _)
      | (with_reducible refine LeO.ite ?_ ?_)
      | (with_reducible refine LeO.bind ?_ (fun _ => ?_))
      | exact ih0 _ _ _ _ _ _ _
      | exact ih1 _ _ _ _ _ _ _ _ _
      | exact impl_AddressOk.mono _ _
      | exact impl_NameOk.mono _ _
      | exact impl_ReadWord32.mono _ _
      | exact impl_Word32.mono _ _
      | exact impl_manifestHead.mono _ _ _ _ _ _ _
      | exact impl_rising_hs.mono _ _
      | exact LeO.none _
      | refine LeO.ite ?_ ?_
      | refine LeO.bind ?_ (fun _ => ?_)
def impl_ManifestText.T10 : Bool × List (List Nat × List Nat) := (true, [([], []), ([0], [0]), ([1], [1]), ([], []), ([3], [3]), ([2, 4], [2, 4]), ([5], [5]), ([], []), ([7], [7]), ([8, 1], [8]), ([6, 9], [6, 9]), ([10], [10]), ([11, 9, 0, 1, 2, 3, 4, 5, 6, 7, 8, 9, 10, 11], [11])])
def impl_ManifestText.B10 : List Nat := [0, 1, 3, 0, 8, 31, 63, 0, 128, 387, 1023, 2047, 4095]
theorem impl_ManifestText.tab10 : rtab .any (opsOf Tryd.f22 10) = impl_ManifestText.T10 := by kernel_rfl
theorem impl_ManifestText.bits10 : waitsOk impl_ManifestText.T10.2 impl_ManifestText.B10 = true := by kernel_rfl
set_option maxHeartbeats 8000000 in
set_option maxRecDepth 100000 in
theorem impl_ManifestText.calls (k : Nat) (a0_0 : ByteArray) (a0_1 : ByteArray) (a0_2 : Int) (A0_3 : Option Addr) (c0_3 : Nat) (l0_3 : List ByteArray) (a0_4 : ByteArray) (a0_5 : Int) (r : ByteArray) (w : World) (hr0_3 : Kd.C Kd.string w A0_3 l0_3.length l0_3) (hc0_3 : l0_3.length ≤ c0_3) (hT : Lib.TabIs Tryd.prog w "internal/strconv.uint64pow10" .u64 Lib.pow10Tab) (h : impl_ManifestText.f k a0_0 a0_1 a0_2 l0_3 a0_4 a0_5 = some r) :
    Calls Tryd.prog 22 #[.agg #[.string a0_0, .string a0_1, .int .i64 a0_2, .slice A0_3 l0_3.length c0_3, .string a0_4, .int .u64 a0_5]] w fun e w' => e = .returned (.string r) ∧ Below w.heap.size w w' := by
  have hu36 := Tryd.underlying36
  have HR0_3 := Aside0.mk hr0_3
  have HC0_3 := Aside0.mk hc0_3
  clear hr0_3 hc0_3
  have HTT := Aside0.mk hT
  clear hT
  have HB := Aside0.mk (Below.refl w.heap.size w)
  have H : ((impl_ReadWord32.f k a0_1).bind fun bt164 => ((impl_AddressOk.f k a0_0).bind fun t166 => (if t166 = true then (if bt164.2 = true then (if a0_2 < 0 then (impl_ManifestText.j0 k true a0_0 a0_1 a0_2 l0_3 a0_4 a0_5) else (if a0_2 > 1000000 then (impl_ManifestText.j0 k true a0_0 a0_1 a0_2 l0_3 a0_4 a0_5) else (if (l0_3.length : Int) > 300 then (impl_ManifestText.j0 k true a0_0 a0_1 a0_2 l0_3 a0_4 a0_5) else ((impl_rising_hs.f k l0_3).bind fun t167 => (if t167 = true then ((impl_NameOk.f k a0_4).bind fun t168 => (impl_ManifestText.j0 k (!t168) a0_0 a0_1 a0_2 l0_3 a0_4 a0_5)) else (impl_ManifestText.j0 k true a0_0 a0_1 a0_2 l0_3 a0_4 a0_5)))))) else (impl_ManifestText.j0 k true a0_0 a0_1 a0_2 l0_3 a0_4 a0_5)) else (impl_ManifestText.j0 k true a0_0 a0_1 a0_2 l0_3 a0_4 a0_5)))) = some r := h
  clear h
  replace H := Option.bind_eq_some_iff.mp H
  obtain ⟨⟨t164, t165⟩, A20, H⟩ := H
  replace H : ((impl_AddressOk.f k a0_0).bind fun t166 => (if t166 = true then (if t165 = true then (if a0_2 < 0 then (impl_ManifestText.j0 k true a0_0 a0_1 a0_2 l0_3 a0_4 a0_5) else (if a0_2 > 1000000 then (impl_ManifestText.j0 k true a0_0 a0_1 a0_2 l0_3 a0_4 a0_5) else (if (l0_3.length : Int) > 300 then (impl_ManifestText.j0 k true a0_0 a0_1 a0_2 l0_3 a0_4 a0_5) else ((impl_rising_hs.f k l0_3).bind fun t167 => (if t167 = true then ((impl_NameOk.f k a0_4).bind fun t168 => (impl_ManifestText.j0 k (!t168) a0_0 a0_1 a0_2 l0_3 a0_4 a0_5)) else (impl_ManifestText.j0 k true a0_0 a0_1 a0_2 l0_3 a0_4 a0_5)))))) else (impl_ManifestText.j0 k true a0_0 a0_1 a0_2 l0_3 a0_4 a0_5)) else (impl_ManifestText.j0 k true a0_0 a0_1 a0_2 l0_3 a0_4 a0_5))) = some r := H
  have A2 := Aside0.mk A20
  clear A20
  have HC3 := Aside0.mk H
  clear H
  go_enter Tryd.func22, Tryd.ntmps22
  go_upto_region 2 with (first | ((with_reducible refine gate_dst (N := 1) rfl ?_); (try (refine gate_guard (by rfl) ?_; dsimp only)); refine box_event ?hg (N := 1) ?hd (cs := #[.string a0_0, .string a0_1, .int .i64 a0_2, .slice A0_3 l0_3.length c0_3, .string a0_4, .int .u64 a0_5]) (t := 36) ?hr ?_; (case hd => rfl); (case hg => rfl); (case hr => first | (go_simp; done) | (go_simp; rfl)); intro gb163 hg w4 hbox hb; have n0_ := Aside0.mk (below_step (by repeat (first | (with_reducible first | exact HB.out | apply below_alloc | apply pw_below_drewN | apply below_drew1) | exact HB.out)) hb); have n1_ := Aside0.mk (hbox); have n2_ := Aside0.mk ((by rw [hg]; exact (below_size (by repeat (first | (with_reducible first | exact HB.out | apply below_alloc | apply pw_below_drewN | apply below_drew1) | exact HB.out))) : w.heap.size ≤ gb163)); have n3_ := Aside0.mk ((by rw [hg]; exact (below_size (by repeat (first | (with_reducible first | exact HB.out | apply below_alloc | apply pw_below_drewN | apply below_drew1) | exact HB.out))) : w.heap.size ≤ gb163)); clear HB; have HB := n0_; have BK163 := n1_; have GW163 := n2_; have GE163 := n3_; clear n0_ n1_ n2_ n3_; clear hb hbox hg; have hcz5_0 : w4.cell? ⟨gb163, 0, none⟩ = some (.string a0_0) := (blk_cell BK163.out 0).trans rfl; have hcz5_1 : w4.cell? ⟨gb163, 1, none⟩ = some (.string a0_1) := (blk_cell BK163.out 1).trans rfl; have hcz5_2 : w4.cell? ⟨gb163, 2, none⟩ = some (.int .i64 a0_2) := (blk_cell BK163.out 2).trans rfl; have hcz5_3 : w4.cell? ⟨gb163, 3, none⟩ = some (.slice A0_3 l0_3.length c0_3) := (blk_cell BK163.out 3).trans rfl; have hcz5_4 : w4.cell? ⟨gb163, 4, none⟩ = some (.string a0_4) := (blk_cell BK163.out 4).trans rfl; have hcz5_5 : w4.cell? ⟨gb163, 5, none⟩ = some (.int .u64 a0_5) := (blk_cell BK163.out 5).trans rfl; have hfz5_0 := blk_frozen BK163.out 0; have hfz5_1 := blk_frozen BK163.out 1; have hfz5_2 := blk_frozen BK163.out 2; have hfz5_3 := blk_frozen BK163.out 3; have hfz5_4 := blk_frozen BK163.out 4; have hfz5_5 := blk_frozen BK163.out 5) | ((with_reducible refine gate_callee (f := 35) rfl ?_); refine goesL_ (some 10) rfl rfl Tryd.func35 (by kernel_rfl) rfl #[.string a0_1] rfl (by (try simp only [List.map_toArray, List.map_cons, List.map_nil]); first | done | rfl | (simp only [List.length_drop, List.length_take]; rfl)) ?_; (with_reducible refine (impl_ReadWord32.calls k a0_1 t164 t165 _ A2.out).mono ?_); rintro e w' ⟨rfl, ⟨nd, rfl⟩⟩; refine ⟨_, rfl, ?_⟩))
  (try simp only [Act.put, List.setIfInBounds_toArray, List.set_cons_zero, List.set_cons_succ])
  go_cut [48] (fun v48 wc => ∃ (kq : Nat) (x48_2 : Bool), v48 = .bool x48_2 ∧ Aside0 (impl_ManifestText.j0 kq x48_2 a0_0 a0_1 a0_2 l0_3 a0_4 a0_5 = some r) ∧ Aside0 (kq ≤ k) ∧ Aside0 (wc.heap[gb163]? = some (.cells #[.string a0_0, .string a0_1, .int .i64 a0_2, (.slice A0_3 l0_3.length c0_3), .string a0_4, .int .u64 a0_5] 36 (0, 0))) ∧ Aside0 (Below w.heap.size w wc))
  case first =>
    have H := HC3.out
    clear HC3
    replace H := Option.bind_eq_some_iff.mp H
    obtain ⟨t166, A60, H⟩ := H
    replace H : (if t166 = true then (if t165 = true then (if a0_2 < 0 then (impl_ManifestText.j0 k true a0_0 a0_1 a0_2 l0_3 a0_4 a0_5) else (if a0_2 > 1000000 then (impl_ManifestText.j0 k true a0_0 a0_1 a0_2 l0_3 a0_4 a0_5) else (if (l0_3.length : Int) > 300 then (impl_ManifestText.j0 k true a0_0 a0_1 a0_2 l0_3 a0_4 a0_5) else ((impl_rising_hs.f k l0_3).bind fun t167 => (if t167 = true then ((impl_NameOk.f k a0_4).bind fun t168 => (impl_ManifestText.j0 k (!t168) a0_0 a0_1 a0_2 l0_3 a0_4 a0_5)) else (impl_ManifestText.j0 k true a0_0 a0_1 a0_2 l0_3 a0_4 a0_5)))))) else (impl_ManifestText.j0 k true a0_0 a0_1 a0_2 l0_3 a0_4 a0_5)) else (impl_ManifestText.j0 k true a0_0 a0_1 a0_2 l0_3 a0_4 a0_5)) = some r := H
    have A6 := Aside0.mk A60
    clear A60
    by_cases c7 : t166 = true
    · subst c7
      have H1 : (if t165 = true then (if a0_2 < 0 then (impl_ManifestText.j0 k true a0_0 a0_1 a0_2 l0_3 a0_4 a0_5) else (if a0_2 > 1000000 then (impl_ManifestText.j0 k true a0_0 a0_1 a0_2 l0_3 a0_4 a0_5) else (if (l0_3.length : Int) > 300 then (impl_ManifestText.j0 k true a0_0 a0_1 a0_2 l0_3 a0_4 a0_5) else ((impl_rising_hs.f k l0_3).bind fun t167 => (if t167 = true then ((impl_NameOk.f k a0_4).bind fun t168 => (impl_ManifestText.j0 k (!t168) a0_0 a0_1 a0_2 l0_3 a0_4 a0_5)) else (impl_ManifestText.j0 k true a0_0 a0_1 a0_2 l0_3 a0_4 a0_5)))))) else (impl_ManifestText.j0 k true a0_0 a0_1 a0_2 l0_3 a0_4 a0_5)) = some r := by rw [if_pos rfl] at H; exact H
      clear H
      have H := H1
      clear H1
      by_cases c8 : t165 = true
      · subst c8
        have H1 : (if a0_2 < 0 then (impl_ManifestText.j0 k true a0_0 a0_1 a0_2 l0_3 a0_4 a0_5) else (if a0_2 > 1000000 then (impl_ManifestText.j0 k true a0_0 a0_1 a0_2 l0_3 a0_4 a0_5) else (if (l0_3.length : Int) > 300 then (impl_ManifestText.j0 k true a0_0 a0_1 a0_2 l0_3 a0_4 a0_5) else ((impl_rising_hs.f k l0_3).bind fun t167 => (if t167 = true then ((impl_NameOk.f k a0_4).bind fun t168 => (impl_ManifestText.j0 k (!t168) a0_0 a0_1 a0_2 l0_3 a0_4 a0_5)) else (impl_ManifestText.j0 k true a0_0 a0_1 a0_2 l0_3 a0_4 a0_5)))))) = some r := by rw [if_pos rfl] at H; exact H
        clear H
        have H := H1
        clear H1
        by_cases c9 : a0_2 < 0
        · rw [if_pos c9] at H
          have c9b0 : decide (a0_2 < 0) = true := decide_eq_true c9
          clear c9
          (first | rw [c9b0] | (simp only [i64_w, i32_w]; rw [c9b0]) | skip)
          have H' := Aside0.mk H
          clear H
          have hcz10_0 : w4.cell? ⟨gb163, 0, none⟩ = some (.string a0_0) := (blk_cell BK163.out 0).trans rfl
          have hcz10_1 : w4.cell? ⟨gb163, 1, none⟩ = some (.string a0_1) := (blk_cell BK163.out 1).trans rfl
          have hcz10_2 : w4.cell? ⟨gb163, 2, none⟩ = some (.int .i64 a0_2) := (blk_cell BK163.out 2).trans rfl
          have hcz10_3 : w4.cell? ⟨gb163, 3, none⟩ = some (.slice A0_3 l0_3.length c0_3) := (blk_cell BK163.out 3).trans rfl
          have hcz10_4 : w4.cell? ⟨gb163, 4, none⟩ = some (.string a0_4) := (blk_cell BK163.out 4).trans rfl
          have hcz10_5 : w4.cell? ⟨gb163, 5, none⟩ = some (.int .u64 a0_5) := (blk_cell BK163.out 5).trans rfl
          have hfz10_0 := blk_frozen BK163.out 0
          have hfz10_1 := blk_frozen BK163.out 1
          have hfz10_2 := blk_frozen BK163.out 2
          have hfz10_3 := blk_frozen BK163.out 3
          have hfz10_4 := blk_frozen BK163.out 4
          have hfz10_5 := blk_frozen BK163.out 5
          go_wp2_with (first | ((with_reducible refine gate_callee (f := 53) rfl ?_); refine goesL_ (some 15) rfl rfl Tryd.func53 (by kernel_rfl) rfl #[.string a0_0] rfl (by (try simp only [List.map_toArray, List.map_cons, List.map_nil]); first | done | rfl | (simp only [List.length_drop, List.length_take]; rfl)) ?_; (with_reducible refine (impl_AddressOk.calls k a0_0 true _ A6.out).mono ?_); rintro e w' ⟨rfl, ⟨nd, rfl⟩⟩; refine ⟨_, rfl, ?_⟩))
          go_meet
          case rel => exact ⟨_, (true), (by first | rfl | (simp; done) | (simp [*]; done) | (simp; (generalize ByteArray.toList _ = q; cases q <;> rfl))), H', ⟨by first | omega | exact Nat.le_refl _⟩, ⟨by (with_reducible repeat (first | refine blk_drewN ?_ _ | refine blk_drew ?_ | refine blk_alloc ?_ _)); exact BK163.out⟩, ⟨by repeat (first | (with_reducible first | exact HB.out | apply below_alloc | apply pw_below_drewN | apply below_drew1 | refine below_set ?_ GE163.out) | exact HB.out)⟩⟩
        · rw [if_neg c9] at H
          have c9b0 : decide (a0_2 < 0) = false := decide_eq_false c9
          clear c9
          (first | rw [c9b0] | (simp only [i64_w, i32_w]; rw [c9b0]) | skip)
          by_cases c11 : a0_2 > 1000000
          · rw [if_pos c11] at H
            have c11b0 : decide (1000000 < a0_2) = true := decide_eq_true c11
            clear c11
            have H' := Aside0.mk H
            clear H
            have hcz12_0 : w4.cell? ⟨gb163, 0, none⟩ = some (.string a0_0) := (blk_cell BK163.out 0).trans rfl
            have hcz12_1 : w4.cell? ⟨gb163, 1, none⟩ = some (.string a0_1) := (blk_cell BK163.out 1).trans rfl
            have hcz12_2 : w4.cell? ⟨gb163, 2, none⟩ = some (.int .i64 a0_2) := (blk_cell BK163.out 2).trans rfl
            have hcz12_3 : w4.cell? ⟨gb163, 3, none⟩ = some (.slice A0_3 l0_3.length c0_3) := (blk_cell BK163.out 3).trans rfl
            have hcz12_4 : w4.cell? ⟨gb163, 4, none⟩ = some (.string a0_4) := (blk_cell BK163.out 4).trans rfl
            have hcz12_5 : w4.cell? ⟨gb163, 5, none⟩ = some (.int .u64 a0_5) := (blk_cell BK163.out 5).trans rfl
            have hfz12_0 := blk_frozen BK163.out 0
            have hfz12_1 := blk_frozen BK163.out 1
            have hfz12_2 := blk_frozen BK163.out 2
            have hfz12_3 := blk_frozen BK163.out 3
            have hfz12_4 := blk_frozen BK163.out 4
            have hfz12_5 := blk_frozen BK163.out 5
            go_wp2_with (first | ((with_reducible refine gate_callee (f := 53) rfl ?_); refine goesL_ (some 15) rfl rfl Tryd.func53 (by kernel_rfl) rfl #[.string a0_0] rfl (by (try simp only [List.map_toArray, List.map_cons, List.map_nil]); first | done | rfl | (simp only [List.length_drop, List.length_take]; rfl)) ?_; (with_reducible refine (impl_AddressOk.calls k a0_0 true _ A6.out).mono ?_); rintro e w' ⟨rfl, ⟨nd, rfl⟩⟩; refine ⟨_, rfl, ?_⟩))
            go_meet
            case rel => exact ⟨_, (true), (by first | rfl | (simp; done) | (simp [*]; done) | (simp; (generalize ByteArray.toList _ = q; cases q <;> rfl))), H', ⟨by first | omega | exact Nat.le_refl _⟩, ⟨by (with_reducible repeat (first | refine blk_drewN ?_ _ | refine blk_drew ?_ | refine blk_alloc ?_ _)); exact BK163.out⟩, ⟨by repeat (first | (with_reducible first | exact HB.out | apply below_alloc | apply pw_below_drewN | apply below_drew1 | refine below_set ?_ GE163.out) | exact HB.out)⟩⟩
          · rw [if_neg c11] at H
            have c11b0 : decide (1000000 < a0_2) = false := decide_eq_false c11
            clear c11
            by_cases c13 : (l0_3.length : Int) > 300
            · rw [if_pos c13] at H
              have c13b0 : decide (300 < (l0_3.length : Int)) = true := decide_eq_true c13
              have c13b1 : decide (300 < l0_3.length) = true := decide_eq_true (by omega)
              clear c13
              have H' := Aside0.mk H
              clear H
              have hcz14_0 : w4.cell? ⟨gb163, 0, none⟩ = some (.string a0_0) := (blk_cell BK163.out 0).trans rfl
              have hcz14_1 : w4.cell? ⟨gb163, 1, none⟩ = some (.string a0_1) := (blk_cell BK163.out 1).trans rfl
              have hcz14_2 : w4.cell? ⟨gb163, 2, none⟩ = some (.int .i64 a0_2) := (blk_cell BK163.out 2).trans rfl
              have hcz14_3 : w4.cell? ⟨gb163, 3, none⟩ = some (.slice A0_3 l0_3.length c0_3) := (blk_cell BK163.out 3).trans rfl
              have hcz14_4 : w4.cell? ⟨gb163, 4, none⟩ = some (.string a0_4) := (blk_cell BK163.out 4).trans rfl
              have hcz14_5 : w4.cell? ⟨gb163, 5, none⟩ = some (.int .u64 a0_5) := (blk_cell BK163.out 5).trans rfl
              have hfz14_0 := blk_frozen BK163.out 0
              have hfz14_1 := blk_frozen BK163.out 1
              have hfz14_2 := blk_frozen BK163.out 2
              have hfz14_3 := blk_frozen BK163.out 3
              have hfz14_4 := blk_frozen BK163.out 4
              have hfz14_5 := blk_frozen BK163.out 5
              go_wp2_with (first | ((with_reducible refine gate_callee (f := 53) rfl ?_); refine goesL_ (some 15) rfl rfl Tryd.func53 (by kernel_rfl) rfl #[.string a0_0] rfl (by (try simp only [List.map_toArray, List.map_cons, List.map_nil]); first | done | rfl | (simp only [List.length_drop, List.length_take]; rfl)) ?_; (with_reducible refine (impl_AddressOk.calls k a0_0 true _ A6.out).mono ?_); rintro e w' ⟨rfl, ⟨nd, rfl⟩⟩; refine ⟨_, rfl, ?_⟩))
              go_meet
              case rel => exact ⟨_, (true), (by first | rfl | (simp; done) | (simp [*]; done) | (simp; (generalize ByteArray.toList _ = q; cases q <;> rfl))), H', ⟨by first | omega | exact Nat.le_refl _⟩, ⟨by (with_reducible repeat (first | refine blk_drewN ?_ _ | refine blk_drew ?_ | refine blk_alloc ?_ _)); exact BK163.out⟩, ⟨by repeat (first | (with_reducible first | exact HB.out | apply below_alloc | apply pw_below_drewN | apply below_drew1 | refine below_set ?_ GE163.out) | exact HB.out)⟩⟩
            · rw [if_neg c13] at H
              have c13b0 : decide (300 < (l0_3.length : Int)) = false := decide_eq_false c13
              have c13b1 : decide (300 < l0_3.length) = false := decide_eq_false (by omega)
              clear c13
              replace H := Option.bind_eq_some_iff.mp H
              obtain ⟨t167, A150, H⟩ := H
              replace H : (if t167 = true then ((impl_NameOk.f k a0_4).bind fun t168 => (impl_ManifestText.j0 k (!t168) a0_0 a0_1 a0_2 l0_3 a0_4 a0_5)) else (impl_ManifestText.j0 k true a0_0 a0_1 a0_2 l0_3 a0_4 a0_5)) = some r := H
              have A15 := Aside0.mk A150
              clear A150
              by_cases c16 : t167 = true
              · subst c16
                have H1 : ((impl_NameOk.f k a0_4).bind fun t168 => (impl_ManifestText.j0 k (!t168) a0_0 a0_1 a0_2 l0_3 a0_4 a0_5)) = some r := by rw [if_pos rfl] at H; exact H
                clear H
                have H := H1
                clear H1
                replace H := Option.bind_eq_some_iff.mp H
                obtain ⟨t168, A170, H⟩ := H
                replace H : (impl_ManifestText.j0 k (!t168) a0_0 a0_1 a0_2 l0_3 a0_4 a0_5) = some r := H
                have A17 := Aside0.mk A170
                clear A170
                have H' := Aside0.mk H
                clear H
                have hcz18_0 : w4.cell? ⟨gb163, 0, none⟩ = some (.string a0_0) := (blk_cell BK163.out 0).trans rfl
                have hcz18_1 : w4.cell? ⟨gb163, 1, none⟩ = some (.string a0_1) := (blk_cell BK163.out 1).trans rfl
                have hcz18_2 : w4.cell? ⟨gb163, 2, none⟩ = some (.int .i64 a0_2) := (blk_cell BK163.out 2).trans rfl
                have hcz18_3 : w4.cell? ⟨gb163, 3, none⟩ = some (.slice A0_3 l0_3.length c0_3) := (blk_cell BK163.out 3).trans rfl
                have hcz18_4 : w4.cell? ⟨gb163, 4, none⟩ = some (.string a0_4) := (blk_cell BK163.out 4).trans rfl
                have hcz18_5 : w4.cell? ⟨gb163, 5, none⟩ = some (.int .u64 a0_5) := (blk_cell BK163.out 5).trans rfl
                have hfz18_0 := blk_frozen BK163.out 0
                have hfz18_1 := blk_frozen BK163.out 1
                have hfz18_2 := blk_frozen BK163.out 2
                have hfz18_3 := blk_frozen BK163.out 3
                have hfz18_4 := blk_frozen BK163.out 4
                have hfz18_5 := blk_frozen BK163.out 5
                go_wp2_with (first | ((with_reducible refine gate_callee (f := 53) rfl ?_); refine goesL_ (some 15) rfl rfl Tryd.func53 (by kernel_rfl) rfl #[.string a0_0] rfl (by (try simp only [List.map_toArray, List.map_cons, List.map_nil]); first | done | rfl | (simp only [List.length_drop, List.length_take]; rfl)) ?_; (with_reducible refine (impl_AddressOk.calls k a0_0 true _ A6.out).mono ?_); rintro e w' ⟨rfl, ⟨nd, rfl⟩⟩; refine ⟨_, rfl, ?_⟩) | (go_at_call 54; (with_reducible refine (impl_rising_hs.calls k _ _ l0_3 true _ ?side1 ?side2 A15.out).mono ?_); (case side1 => repeat (first | exact (Kd.C_below HR0_3.out (by repeat (first | (with_reducible first | exact HB.out | apply below_alloc | apply pw_below_drewN | apply below_drew1 | refine below_set ?_ GE163.out) | exact HB.out))) | (with_reducible refine Kd.C_alloc ?_ _) | (with_reducible refine Kd.C_drewN ?_ _) | (with_reducible refine Kd.C_drew ?_))); (case side2 => exact HC0_3.out); rintro e w' ⟨rfl, ⟨nd, rfl⟩⟩) | (go_at_call 34; (with_reducible refine (impl_NameOk.calls k a0_4 t168 _ A17.out).mono ?_); rintro e w' ⟨rfl, ⟨nd, rfl⟩⟩))
                go_meet
                case rel => exact ⟨_, (!t168), (by first | rfl | (simp; done) | (simp [*]; done) | (simp; (generalize ByteArray.toList _ = q; cases q <;> rfl))), H', ⟨by first | omega | exact Nat.le_refl _⟩, ⟨by (with_reducible repeat (first | refine blk_drewN ?_ _ | refine blk_drew ?_ | refine blk_alloc ?_ _)); exact BK163.out⟩, ⟨by repeat (first | (with_reducible first | exact HB.out | apply below_alloc | apply pw_below_drewN | apply below_drew1 | refine below_set ?_ GE163.out) | exact HB.out)⟩⟩
              · replace c16 := Bool.eq_false_iff.mpr c16
                subst c16
                have H1 : (impl_ManifestText.j0 k true a0_0 a0_1 a0_2 l0_3 a0_4 a0_5) = some r := by rw [if_neg (show ¬ (false = true) by decide)] at H; exact H
                clear H
                have H := H1
                clear H1
                have H' := Aside0.mk H
                clear H
                have hcz19_0 : w4.cell? ⟨gb163, 0, none⟩ = some (.string a0_0) := (blk_cell BK163.out 0).trans rfl
                have hcz19_1 : w4.cell? ⟨gb163, 1, none⟩ = some (.string a0_1) := (blk_cell BK163.out 1).trans rfl
                have hcz19_2 : w4.cell? ⟨gb163, 2, none⟩ = some (.int .i64 a0_2) := (blk_cell BK163.out 2).trans rfl
                have hcz19_3 : w4.cell? ⟨gb163, 3, none⟩ = some (.slice A0_3 l0_3.length c0_3) := (blk_cell BK163.out 3).trans rfl
                have hcz19_4 : w4.cell? ⟨gb163, 4, none⟩ = some (.string a0_4) := (blk_cell BK163.out 4).trans rfl
                have hcz19_5 : w4.cell? ⟨gb163, 5, none⟩ = some (.int .u64 a0_5) := (blk_cell BK163.out 5).trans rfl
                have hfz19_0 := blk_frozen BK163.out 0
                have hfz19_1 := blk_frozen BK163.out 1
                have hfz19_2 := blk_frozen BK163.out 2
                have hfz19_3 := blk_frozen BK163.out 3
                have hfz19_4 := blk_frozen BK163.out 4
                have hfz19_5 := blk_frozen BK163.out 5
                go_wp2_with (first | ((with_reducible refine gate_callee (f := 53) rfl ?_); refine goesL_ (some 15) rfl rfl Tryd.func53 (by kernel_rfl) rfl #[.string a0_0] rfl (by (try simp only [List.map_toArray, List.map_cons, List.map_nil]); first | done | rfl | (simp only [List.length_drop, List.length_take]; rfl)) ?_; (with_reducible refine (impl_AddressOk.calls k a0_0 true _ A6.out).mono ?_); rintro e w' ⟨rfl, ⟨nd, rfl⟩⟩; refine ⟨_, rfl, ?_⟩) | (go_at_call 54; (with_reducible refine (impl_rising_hs.calls k _ _ l0_3 false _ ?side1 ?side2 A15.out).mono ?_); (case side1 => repeat (first | exact (Kd.C_below HR0_3.out (by repeat (first | (with_reducible first | exact HB.out | apply below_alloc | apply pw_below_drewN | apply below_drew1 | refine below_set ?_ GE163.out) | exact HB.out))) | (with_reducible refine Kd.C_alloc ?_ _) | (with_reducible refine Kd.C_drewN ?_ _) | (with_reducible refine Kd.C_drew ?_))); (case side2 => exact HC0_3.out); rintro e w' ⟨rfl, ⟨nd, rfl⟩⟩))
                go_meet
                case rel => exact ⟨_, (true), (by first | rfl | (simp; done) | (simp [*]; done) | (simp; (generalize ByteArray.toList _ = q; cases q <;> rfl))), H', ⟨by first | omega | exact Nat.le_refl _⟩, ⟨by (with_reducible repeat (first | refine blk_drewN ?_ _ | refine blk_drew ?_ | refine blk_alloc ?_ _)); exact BK163.out⟩, ⟨by repeat (first | (with_reducible first | exact HB.out | apply below_alloc | apply pw_below_drewN | apply below_drew1 | refine below_set ?_ GE163.out) | exact HB.out)⟩⟩
      · replace c8 := Bool.eq_false_iff.mpr c8
        subst c8
        have H1 : (impl_ManifestText.j0 k true a0_0 a0_1 a0_2 l0_3 a0_4 a0_5) = some r := by rw [if_neg (show ¬ (false = true) by decide)] at H; exact H
        clear H
        have H := H1
        clear H1
        have H' := Aside0.mk H
        clear H
        have hcz20_0 : w4.cell? ⟨gb163, 0, none⟩ = some (.string a0_0) := (blk_cell BK163.out 0).trans rfl
        have hcz20_1 : w4.cell? ⟨gb163, 1, none⟩ = some (.string a0_1) := (blk_cell BK163.out 1).trans rfl
        have hcz20_2 : w4.cell? ⟨gb163, 2, none⟩ = some (.int .i64 a0_2) := (blk_cell BK163.out 2).trans rfl
        have hcz20_3 : w4.cell? ⟨gb163, 3, none⟩ = some (.slice A0_3 l0_3.length c0_3) := (blk_cell BK163.out 3).trans rfl
        have hcz20_4 : w4.cell? ⟨gb163, 4, none⟩ = some (.string a0_4) := (blk_cell BK163.out 4).trans rfl
        have hcz20_5 : w4.cell? ⟨gb163, 5, none⟩ = some (.int .u64 a0_5) := (blk_cell BK163.out 5).trans rfl
        have hfz20_0 := blk_frozen BK163.out 0
        have hfz20_1 := blk_frozen BK163.out 1
        have hfz20_2 := blk_frozen BK163.out 2
        have hfz20_3 := blk_frozen BK163.out 3
        have hfz20_4 := blk_frozen BK163.out 4
        have hfz20_5 := blk_frozen BK163.out 5
        go_wp2_with (first | ((with_reducible refine gate_callee (f := 53) rfl ?_); refine goesL_ (some 15) rfl rfl Tryd.func53 (by kernel_rfl) rfl #[.string a0_0] rfl (by (try simp only [List.map_toArray, List.map_cons, List.map_nil]); first | done | rfl | (simp only [List.length_drop, List.length_take]; rfl)) ?_; (with_reducible refine (impl_AddressOk.calls k a0_0 true _ A6.out).mono ?_); rintro e w' ⟨rfl, ⟨nd, rfl⟩⟩; refine ⟨_, rfl, ?_⟩))
        go_meet
        case rel => exact ⟨_, (true), (by first | rfl | (simp; done) | (simp [*]; done) | (simp; (generalize ByteArray.toList _ = q; cases q <;> rfl))), H', ⟨by first | omega | exact Nat.le_refl _⟩, ⟨by (with_reducible repeat (first | refine blk_drewN ?_ _ | refine blk_drew ?_ | refine blk_alloc ?_ _)); exact BK163.out⟩, ⟨by repeat (first | (with_reducible first | exact HB.out | apply below_alloc | apply pw_below_drewN | apply below_drew1 | refine below_set ?_ GE163.out) | exact HB.out)⟩⟩
    · replace c7 := Bool.eq_false_iff.mpr c7
      subst c7
      have H1 : (impl_ManifestText.j0 k true a0_0 a0_1 a0_2 l0_3 a0_4 a0_5) = some r := by rw [if_neg (show ¬ (false = true) by decide)] at H; exact H
      clear H
      have H := H1
      clear H1
      have H' := Aside0.mk H
      clear H
      have hcz21_0 : w4.cell? ⟨gb163, 0, none⟩ = some (.string a0_0) := (blk_cell BK163.out 0).trans rfl
      have hcz21_1 : w4.cell? ⟨gb163, 1, none⟩ = some (.string a0_1) := (blk_cell BK163.out 1).trans rfl
      have hcz21_2 : w4.cell? ⟨gb163, 2, none⟩ = some (.int .i64 a0_2) := (blk_cell BK163.out 2).trans rfl
      have hcz21_3 : w4.cell? ⟨gb163, 3, none⟩ = some (.slice A0_3 l0_3.length c0_3) := (blk_cell BK163.out 3).trans rfl
      have hcz21_4 : w4.cell? ⟨gb163, 4, none⟩ = some (.string a0_4) := (blk_cell BK163.out 4).trans rfl
      have hcz21_5 : w4.cell? ⟨gb163, 5, none⟩ = some (.int .u64 a0_5) := (blk_cell BK163.out 5).trans rfl
      have hfz21_0 := blk_frozen BK163.out 0
      have hfz21_1 := blk_frozen BK163.out 1
      have hfz21_2 := blk_frozen BK163.out 2
      have hfz21_3 := blk_frozen BK163.out 3
      have hfz21_4 := blk_frozen BK163.out 4
      have hfz21_5 := blk_frozen BK163.out 5
      go_wp2_with (first | ((with_reducible refine gate_callee (f := 53) rfl ?_); refine goesL_ (some 15) rfl rfl Tryd.func53 (by kernel_rfl) rfl #[.string a0_0] rfl (by (try simp only [List.map_toArray, List.map_cons, List.map_nil]); first | done | rfl | (simp only [List.length_drop, List.length_take]; rfl)) ?_; (with_reducible refine (impl_AddressOk.calls k a0_0 false _ A6.out).mono ?_); rintro e w' ⟨rfl, ⟨nd, rfl⟩⟩; refine ⟨_, rfl, ?_⟩))
      go_meet
      case rel => exact ⟨_, (true), (by first | rfl | (simp; done) | (simp [*]; done) | (simp; (generalize ByteArray.toList _ = q; cases q <;> rfl))), H', ⟨by first | omega | exact Nat.le_refl _⟩, ⟨by (with_reducible repeat (first | refine blk_drewN ?_ _ | refine blk_drew ?_ | refine blk_alloc ?_ _)); exact BK163.out⟩, ⟨by repeat (first | (with_reducible first | exact HB.out | apply below_alloc | apply pw_below_drewN | apply below_drew1 | refine below_set ?_ GE163.out) | exact HB.out)⟩⟩
  case rest =>
    clear HC3
    try clear c1
    try clear c2
    try clear p2
    try clear c3
    try clear c5
    try clear c7
    try clear c8
    try clear c9
    try clear c9b0
    try clear c11
    try clear c11b0
    try clear c13
    try clear c13b0
    try clear c13b1
    try clear c16
    try clear hcz10_0
    try clear hcz10_1
    try clear hcz10_2
    try clear hcz10_3
    try clear hcz10_4
    try clear hcz10_5
    try clear hcz12_0
    try clear hcz12_1
    try clear hcz12_2
    try clear hcz12_3
    try clear hcz12_4
    try clear hcz12_5
    try clear hcz14_0
    try clear hcz14_1
    try clear hcz14_2
    try clear hcz14_3
    try clear hcz14_4
    try clear hcz14_5
    try clear hcz18_0
    try clear hcz18_1
    try clear hcz18_2
    try clear hcz18_3
    try clear hcz18_4
    try clear hcz18_5
    try clear hcz19_0
    try clear hcz19_1
    try clear hcz19_2
    try clear hcz19_3
    try clear hcz19_4
    try clear hcz19_5
    try clear hcz20_0
    try clear hcz20_1
    try clear hcz20_2
    try clear hcz20_3
    try clear hcz20_4
    try clear hcz20_5
    try clear hcz21_0
    try clear hcz21_1
    try clear hcz21_2
    try clear hcz21_3
    try clear hcz21_4
    try clear hcz21_5
    try clear hcz5_0
    try clear hcz5_1
    try clear hcz5_2
    try clear hcz5_3
    try clear hcz5_4
    try clear hcz5_5
    try clear hfz10_0
    try clear hfz10_1
    try clear hfz10_2
    try clear hfz10_3
    try clear hfz10_4
    try clear hfz10_5
    try clear hfz12_0
    try clear hfz12_1
    try clear hfz12_2
    try clear hfz12_3
    try clear hfz12_4
    try clear hfz12_5
    try clear hfz14_0
    try clear hfz14_1
    try clear hfz14_2
    try clear hfz14_3
    try clear hfz14_4
    try clear hfz14_5
    try clear hfz18_0
    try clear hfz18_1
    try clear hfz18_2
    try clear hfz18_3
    try clear hfz18_4
    try clear hfz18_5
    try clear hfz19_0
    try clear hfz19_1
    try clear hfz19_2
    try clear hfz19_3
    try clear hfz19_4
    try clear hfz19_5
    try clear hfz20_0
    try clear hfz20_1
    try clear hfz20_2
    try clear hfz20_3
    try clear hfz20_4
    try clear hfz20_5
    try clear hfz21_0
    try clear hfz21_1
    try clear hfz21_2
    try clear hfz21_3
    try clear hfz21_4
    try clear hfz21_5
    try clear hfz5_0
    try clear hfz5_1
    try clear hfz5_2
    try clear hfz5_3
    try clear hfz5_4
    try clear hfz5_5
    obtain ⟨kq, x48_2, rfl, HA, HJ2, BK163, HB⟩ := hcut
    cases kq with
    | zero => exact absurd HA.out (by simp [impl_ManifestText.j0])
    | succ kj2 =>
      have H := HA.out
      clear HA
      simp only [impl_ManifestText.j0] at H
      by_cases c22 : x48_2 = true
      · subst c22
        have H1 : (some (⟨#[]⟩ : ByteArray)) = some r := by rw [if_pos rfl] at H; exact H
        clear H
        have H := H1
        clear H1
        obtain rfl := Option.some.inj H
        go_wp2
        go_ret
        exact ⟨by first | rfl | (simp [errW_none, errW_some] <;> rfl) | (simp [*, errW_none, errW_some] <;> rfl), by repeat (first | (with_reducible first | exact HB.out | apply below_alloc | apply pw_below_drewN | apply below_drew1 | refine below_set ?_ GE163.out) | exact HB.out)⟩
      · replace c22 := Bool.eq_false_iff.mpr c22
        subst c22
        have H1 : (impl_ManifestText.l0 kj2 l0_3 (l0_3.length : Int) 0 a0_0 a0_1 a0_2 l0_3 a0_4 a0_5) = some r := by rw [if_neg (show ¬ (false = true) by decide)] at H; exact H
        clear H
        have H := H1
        clear H1
        have H' := Aside0.mk H
        clear H
        have hcz23_0 : wc.cell? ⟨gb163, 0, none⟩ = some (.string a0_0) := (blk_cell BK163.out 0).trans rfl
        have hcz23_1 : wc.cell? ⟨gb163, 1, none⟩ = some (.string a0_1) := (blk_cell BK163.out 1).trans rfl
        have hcz23_2 : wc.cell? ⟨gb163, 2, none⟩ = some (.int .i64 a0_2) := (blk_cell BK163.out 2).trans rfl
        have hcz23_3 : wc.cell? ⟨gb163, 3, none⟩ = some (.slice A0_3 l0_3.length c0_3) := (blk_cell BK163.out 3).trans rfl
        have hcz23_4 : wc.cell? ⟨gb163, 4, none⟩ = some (.string a0_4) := (blk_cell BK163.out 4).trans rfl
        have hcz23_5 : wc.cell? ⟨gb163, 5, none⟩ = some (.int .u64 a0_5) := (blk_cell BK163.out 5).trans rfl
        have hfz23_0 := blk_frozen BK163.out 0
        have hfz23_1 := blk_frozen BK163.out 1
        have hfz23_2 := blk_frozen BK163.out 2
        have hfz23_3 := blk_frozen BK163.out 3
        have hfz23_4 := blk_frozen BK163.out 4
        have hfz23_5 := blk_frozen BK163.out 5
        go_wp2
        go_loopg [52] kj2 (fun kq v52 w' => ∃ (x52_2 : Int), v52 = .int .i64 x52_2 ∧ Aside0 (impl_ManifestText.l0 kq l0_3 (l0_3.length : Int) x52_2 a0_0 a0_1 a0_2 l0_3 a0_4 a0_5 = some r) ∧ Aside0 (kq ≤ kj2) ∧ Aside0 (w'.heap[gb163]? = some (.cells #[.string a0_0, .string a0_1, .int .i64 a0_2, (.slice A0_3 l0_3.length c0_3), .string a0_4, .int .u64 a0_5] 36 (0, 0))) ∧ Aside0 (Below w.heap.size w w'))
        case atStart => exact ⟨(0), (by first | rfl | (simp; done) | (simp [*]; done) | (simp; (generalize ByteArray.toList _ = q; cases q <;> rfl))), H', ⟨Nat.le_refl _⟩, ⟨by (with_reducible repeat (first | refine blk_drewN ?_ _ | refine blk_drew ?_ | refine blk_alloc ?_ _)); exact BK163.out⟩, ⟨by repeat (first | (with_reducible first | exact HB.out | apply below_alloc | apply pw_below_drewN | apply below_drew1 | refine below_set ?_ GE163.out) | exact HB.out)⟩⟩
        case round =>
          clear H'
          try clear c1
          try clear c2
          try clear p2
          try clear c3
          try clear c5
          try clear c7
          try clear c8
          try clear c9
          try clear c9b0
          try clear c11
          try clear c11b0
          try clear c13
          try clear c13b0
          try clear c13b1
          try clear c16
          try clear c22
          try clear hcz10_0
          try clear hcz10_1
          try clear hcz10_2
          try clear hcz10_3
          try clear hcz10_4
          try clear hcz10_5
          try clear hcz12_0
          try clear hcz12_1
          try clear hcz12_2
          try clear hcz12_3
          try clear hcz12_4
          try clear hcz12_5
          try clear hcz14_0
          try clear hcz14_1
          try clear hcz14_2
          try clear hcz14_3
          try clear hcz14_4
          try clear hcz14_5
          try clear hcz18_0
          try clear hcz18_1
          try clear hcz18_2
          try clear hcz18_3
          try clear hcz18_4
          try clear hcz18_5
          try clear hcz19_0
          try clear hcz19_1
          try clear hcz19_2
          try clear hcz19_3
          try clear hcz19_4
          try clear hcz19_5
          try clear hcz20_0
          try clear hcz20_1
          try clear hcz20_2
          try clear hcz20_3
          try clear hcz20_4
          try clear hcz20_5
          try clear hcz21_0
          try clear hcz21_1
          try clear hcz21_2
          try clear hcz21_3
          try clear hcz21_4
          try clear hcz21_5
          try clear hcz23_0
          try clear hcz23_1
          try clear hcz23_2
          try clear hcz23_3
          try clear hcz23_4
          try clear hcz23_5
          try clear hcz5_0
          try clear hcz5_1
          try clear hcz5_2
          try clear hcz5_3
          try clear hcz5_4
          try clear hcz5_5
          try clear hfz10_0
          try clear hfz10_1
          try clear hfz10_2
          try clear hfz10_3
          try clear hfz10_4
          try clear hfz10_5
          try clear hfz12_0
          try clear hfz12_1
          try clear hfz12_2
          try clear hfz12_3
          try clear hfz12_4
          try clear hfz12_5
          try clear hfz14_0
          try clear hfz14_1
          try clear hfz14_2
          try clear hfz14_3
          try clear hfz14_4
          try clear hfz14_5
          try clear hfz18_0
          try clear hfz18_1
          try clear hfz18_2
          try clear hfz18_3
          try clear hfz18_4
          try clear hfz18_5
          try clear hfz19_0
          try clear hfz19_1
          try clear hfz19_2
          try clear hfz19_3
          try clear hfz19_4
          try clear hfz19_5
          try clear hfz20_0
          try clear hfz20_1
          try clear hfz20_2
          try clear hfz20_3
          try clear hfz20_4
          try clear hfz20_5
          try clear hfz21_0
          try clear hfz21_1
          try clear hfz21_2
          try clear hfz21_3
          try clear hfz21_4
          try clear hfz21_5
          try clear hfz23_0
          try clear hfz23_1
          try clear hfz23_2
          try clear hfz23_3
          try clear hfz23_4
          try clear hfz23_5
          try clear hfz5_0
          try clear hfz5_1
          try clear hfz5_2
          try clear hfz5_3
          try clear hfz5_4
          try clear hfz5_5
          try clear p2
          obtain ⟨x52_2, rfl, HA, HK2, BK163, HB⟩ := hrel
          cases gk with
          | zero => exact absurd HA.out (by simp [impl_ManifestText.l0])
          | succ k2 =>
            have H := HA.out
            clear HA
            simp only [impl_ManifestText.l0] at H
            by_cases c24 : x52_2 < (l0_3.length : Int)
            · rw [if_pos c24] at H
              have c24b0 : decide (x52_2 < (l0_3.length : Int)) = true := decide_eq_true c24
              clear c24
              by_cases c25 : 0 ≤ x52_2
              · rw [if_pos c25] at H
                have c25b0 : decide (0 ≤ x52_2) = true := decide_eq_true c25
                clear c25
                by_cases c26 : x52_2 < (l0_3.length : Int)
                · rw [if_pos c26] at H
                  have c26b0 : decide (x52_2 < (l0_3.length : Int)) = true := decide_eq_true c26
                  clear c26
                  replace H := Option.bind_eq_some_iff.mp H
                  obtain ⟨t170, A270, H⟩ := H
                  replace H : (if t170 = true then (impl_ManifestText.l0 k2 l0_3 (l0_3.length : Int) (wrap64 (x52_2 + 1)) a0_0 a0_1 a0_2 l0_3 a0_4 a0_5) else (some (⟨#[]⟩ : ByteArray))) = some r := H
                  have A27 := Aside0.mk A270
                  clear A270
                  by_cases c28 : t170 = true
                  · subst c28
                    have H1 : (impl_ManifestText.l0 k2 l0_3 (l0_3.length : Int) (wrap64 (x52_2 + 1)) a0_0 a0_1 a0_2 l0_3 a0_4 a0_5) = some r := by rw [if_pos rfl] at H; exact H
                    clear H
                    have H := H1
                    clear H1
                    have H' := Aside0.mk H
                    clear H
                    have p169 : 0 ≤ (x52_2 : Int) := of_decide_eq_true (by first | (with_reducible assumption) | assumption)
                    have q169 : x52_2 < (l0_3.length : Int) := of_decide_eq_true (by first | (with_reducible assumption) | assumption)
                    obtain ⟨ad169, e169, hx169_0⟩ := Kd.at_string HR0_3.out x52_2 p169 q169
                    cases e169
                    try (replace hx169_0 := (HB.out.cell (World.block_lt_of_cell? w _ hx169_0)).trans hx169_0)
                    replace p169 := eq_true p169
                    replace q169 := eq_true q169
                    go_wp2_with (first | ((with_reducible refine gate_callee (f := 53) rfl ?_); refine goesL_ (some 57) rfl rfl Tryd.func53 (by kernel_rfl) rfl #[.string (rdOf ByteArray.empty l0_3 x52_2)] rfl (by (try simp only [List.map_toArray, List.map_cons, List.map_nil]); first | done | rfl | (simp only [List.length_drop, List.length_take]; rfl)) ?_; (with_reducible refine (impl_AddressOk.calls k2 (rdOf ByteArray.empty l0_3 x52_2) true _ A27.out).mono ?_); rintro e w' ⟨rfl, ⟨nd, rfl⟩⟩; refine ⟨_, rfl, ?_⟩))
                    go_roundg k2
                    case measure => have := HJ2.out; have := HK2.out; omega
                    case rel => exact ⟨(wrap64 (x52_2 + 1)), (by first | rfl | (simp; done) | (simp [*]; done) | (simp; (generalize ByteArray.toList _ = q; cases q <;> rfl))), H', ⟨by have := HJ2.out; have := HK2.out; omega⟩, ⟨by (with_reducible repeat (first | refine blk_drewN ?_ _ | refine blk_drew ?_ | refine blk_alloc ?_ _)); exact BK163.out⟩, ⟨by repeat (first | (with_reducible first | exact HB.out | apply below_alloc | apply pw_below_drewN | apply below_drew1 | refine below_set ?_ GE163.out) | exact HB.out)⟩⟩
                  · replace c28 := Bool.eq_false_iff.mpr c28
                    subst c28
                    have H1 : (some (⟨#[]⟩ : ByteArray)) = some r := by rw [if_neg (show ¬ (false = true) by decide)] at H; exact H
                    clear H
                    have H := H1
                    clear H1
                    obtain rfl := Option.some.inj H
                    have p169 : 0 ≤ (x52_2 : Int) := of_decide_eq_true (by first | (with_reducible assumption) | assumption)
                    have q169 : x52_2 < (l0_3.length : Int) := of_decide_eq_true (by first | (with_reducible assumption) | assumption)
                    obtain ⟨ad169, e169, hx169_0⟩ := Kd.at_string HR0_3.out x52_2 p169 q169
                    cases e169
                    try (replace hx169_0 := (HB.out.cell (World.block_lt_of_cell? w _ hx169_0)).trans hx169_0)
                    replace p169 := eq_true p169
                    replace q169 := eq_true q169
                    go_wp2_with (first | ((with_reducible refine gate_callee (f := 53) rfl ?_); refine goesL_ (some 57) rfl rfl Tryd.func53 (by kernel_rfl) rfl #[.string (rdOf ByteArray.empty l0_3 x52_2)] rfl (by (try simp only [List.map_toArray, List.map_cons, List.map_nil]); first | done | rfl | (simp only [List.length_drop, List.length_take]; rfl)) ?_; (with_reducible refine (impl_AddressOk.calls k2 (rdOf ByteArray.empty l0_3 x52_2) false _ A27.out).mono ?_); rintro e w' ⟨rfl, ⟨nd, rfl⟩⟩; refine ⟨_, rfl, ?_⟩))
                    go_ret
                    exact ⟨by first | rfl | (simp [errW_none, errW_some] <;> rfl) | (simp [*, errW_none, errW_some] <;> rfl), by repeat (first | (with_reducible first | exact HB.out | apply below_alloc | apply pw_below_drewN | apply below_drew1 | refine below_set ?_ GE163.out) | exact HB.out)⟩
                · rw [if_neg c26] at H
                  exact absurd H (by simp)
              · rw [if_neg c25] at H
                exact absurd H (by simp)
            · rw [if_neg c24] at H
              have c24b0 : decide (x52_2 < (l0_3.length : Int)) = false := decide_eq_false c24
              clear c24
              replace H := Option.bind_eq_some_iff.mp H
              obtain ⟨t171, A290, H⟩ := H
              replace H : (if t171.size + 4 ≤ 9223372036854775807 then (if (t171 ++ (⟨#[107, 101, 121, 32]⟩ : ByteArray)).size + a0_4.size ≤ 9223372036854775807 then (if ((t171 ++ (⟨#[107, 101, 121, 32]⟩ : ByteArray)) ++ a0_4).size + 5 ≤ 9223372036854775807 then ((impl_Word32.f k2 a0_5).bind fun t172 => (if (((t171 ++ (⟨#[107, 101, 121, 32]⟩ : ByteArray)) ++ a0_4) ++ (⟨#[10, 115, 105, 103, 32]⟩ : ByteArray)).size + t172.size ≤ 9223372036854775807 then (if ((((t171 ++ (⟨#[107, 101, 121, 32]⟩ : ByteArray)) ++ a0_4) ++ (⟨#[10, 115, 105, 103, 32]⟩ : ByteArray)) ++ t172).size + 1 ≤ 9223372036854775807 then (some (((((t171 ++ (⟨#[107, 101, 121, 32]⟩ : ByteArray)) ++ a0_4) ++ (⟨#[10, 115, 105, 103, 32]⟩ : ByteArray)) ++ t172) ++ (⟨#[10]⟩ : ByteArray))) else (none)) else (none))) else (none)) else (none)) else (none)) = some r := H
              have A29 := Aside0.mk A290
              clear A290
              by_cases c30 : t171.size + 4 ≤ 9223372036854775807
              · rw [if_pos c30] at H
                have c30b0 := eq_true c30
                have c30b1 : decide (t171.size + 4 ≤ 9223372036854775807) = true := decide_eq_true c30
                try have c30b2 : (9223372036854775807 < t171.size + 4) = False := eq_false (Nat.not_lt.2 c30)
                try (have c30b3 := Nat.not_lt.2 c30; simp only [ByteArray.size_append, ByteArray.size_mk', List.size_toArray, List.length_cons, List.length_nil, Nat.zero_add, Nat.reduceAdd] at c30b3; replace c30b3 := eq_false c30b3)
                by_cases c31 : (t171 ++ (⟨#[107, 101, 121, 32]⟩ : ByteArray)).size + a0_4.size ≤ 9223372036854775807
                · rw [if_pos c31] at H
                  have c31b0 := eq_true c31
                  have c31b1 : decide ((t171 ++ (⟨#[107, 101, 121, 32]⟩ : ByteArray)).size + a0_4.size ≤ 9223372036854775807) = true := decide_eq_true c31
                  try have c31b2 : (9223372036854775807 < (t171 ++ (⟨#[107, 101, 121, 32]⟩ : ByteArray)).size + a0_4.size) = False := eq_false (Nat.not_lt.2 c31)
                  try (have c31b3 := Nat.not_lt.2 c31; simp only [ByteArray.size_append, ByteArray.size_mk', List.size_toArray, List.length_cons, List.length_nil, Nat.zero_add, Nat.reduceAdd] at c31b3; replace c31b3 := eq_false c31b3)
                  by_cases c32 : ((t171 ++ (⟨#[107, 101, 121, 32]⟩ : ByteArray)) ++ a0_4).size + 5 ≤ 9223372036854775807
                  · rw [if_pos c32] at H
                    have c32b0 := eq_true c32
                    have c32b1 : decide (((t171 ++ (⟨#[107, 101, 121, 32]⟩ : ByteArray)) ++ a0_4).size + 5 ≤ 9223372036854775807) = true := decide_eq_true c32
                    try have c32b2 : (9223372036854775807 < ((t171 ++ (⟨#[107, 101, 121, 32]⟩ : ByteArray)) ++ a0_4).size + 5) = False := eq_false (Nat.not_lt.2 c32)
                    try (have c32b3 := Nat.not_lt.2 c32; simp only [ByteArray.size_append, ByteArray.size_mk', List.size_toArray, List.length_cons, List.length_nil, Nat.zero_add, Nat.reduceAdd] at c32b3; replace c32b3 := eq_false c32b3)
                    replace H := Option.bind_eq_some_iff.mp H
                    obtain ⟨t172, A330, H⟩ := H
                    replace H : (if (((t171 ++ (⟨#[107, 101, 121, 32]⟩ : ByteArray)) ++ a0_4) ++ (⟨#[10, 115, 105, 103, 32]⟩ : ByteArray)).size + t172.size ≤ 9223372036854775807 then (if ((((t171 ++ (⟨#[107, 101, 121, 32]⟩ : ByteArray)) ++ a0_4) ++ (⟨#[10, 115, 105, 103, 32]⟩ : ByteArray)) ++ t172).size + 1 ≤ 9223372036854775807 then (some (((((t171 ++ (⟨#[107, 101, 121, 32]⟩ : ByteArray)) ++ a0_4) ++ (⟨#[10, 115, 105, 103, 32]⟩ : ByteArray)) ++ t172) ++ (⟨#[10]⟩ : ByteArray))) else (none)) else (none)) = some r := H
                    have A33 := Aside0.mk A330
                    clear A330
                    by_cases c34 : (((t171 ++ (⟨#[107, 101, 121, 32]⟩ : ByteArray)) ++ a0_4) ++ (⟨#[10, 115, 105, 103, 32]⟩ : ByteArray)).size + t172.size ≤ 9223372036854775807
                    · rw [if_pos c34] at H
                      have c34b0 := eq_true c34
                      have c34b1 : decide ((((t171 ++ (⟨#[107, 101, 121, 32]⟩ : ByteArray)) ++ a0_4) ++ (⟨#[10, 115, 105, 103, 32]⟩ : ByteArray)).size + t172.size ≤ 9223372036854775807) = true := decide_eq_true c34
                      try have c34b2 : (9223372036854775807 < (((t171 ++ (⟨#[107, 101, 121, 32]⟩ : ByteArray)) ++ a0_4) ++ (⟨#[10, 115, 105, 103, 32]⟩ : ByteArray)).size + t172.size) = False := eq_false (Nat.not_lt.2 c34)
                      try (have c34b3 := Nat.not_lt.2 c34; simp only [ByteArray.size_append, ByteArray.size_mk', List.size_toArray, List.length_cons, List.length_nil, Nat.zero_add, Nat.reduceAdd] at c34b3; replace c34b3 := eq_false c34b3)
                      by_cases c35 : ((((t171 ++ (⟨#[107, 101, 121, 32]⟩ : ByteArray)) ++ a0_4) ++ (⟨#[10, 115, 105, 103, 32]⟩ : ByteArray)) ++ t172).size + 1 ≤ 9223372036854775807
                      · rw [if_pos c35] at H
                        have c35b0 := eq_true c35
                        have c35b1 : decide (((((t171 ++ (⟨#[107, 101, 121, 32]⟩ : ByteArray)) ++ a0_4) ++ (⟨#[10, 115, 105, 103, 32]⟩ : ByteArray)) ++ t172).size + 1 ≤ 9223372036854775807) = true := decide_eq_true c35
                        try have c35b2 : (9223372036854775807 < ((((t171 ++ (⟨#[107, 101, 121, 32]⟩ : ByteArray)) ++ a0_4) ++ (⟨#[10, 115, 105, 103, 32]⟩ : ByteArray)) ++ t172).size + 1) = False := eq_false (Nat.not_lt.2 c35)
                        try (have c35b3 := Nat.not_lt.2 c35; simp only [ByteArray.size_append, ByteArray.size_mk', List.size_toArray, List.length_cons, List.length_nil, Nat.zero_add, Nat.reduceAdd] at c35b3; replace c35b3 := eq_false c35b3)
                        obtain rfl := Option.some.inj H
                        try go_wp2
                        have n0_ := Aside0.mk (blk_drew BK163.out)
                        have n1_ := Aside0.mk (below_drew1 HB.out)
                        clear BK163
                        clear HB
                        have BK163 := n0_
                        have HB := n1_
                        clear n0_ n1_
                        refine start_ (n := 13) (S := fun w' => w'.cell? ⟨gb163, 0, none⟩ = some (.string a0_0) ∧ w'.cell? ⟨gb163, 1, none⟩ = some (.string a0_1) ∧ w'.cell? ⟨gb163, 2, none⟩ = some (.int .i64 a0_2) ∧ w'.cell? ⟨gb163, 3, none⟩ = some (.slice A0_3 l0_3.length c0_3) ∧ w'.cell? ⟨gb163, 4, none⟩ = some (.string a0_4) ∧ w'.cell? ⟨gb163, 5, none⟩ = some (.int .u64 a0_5)) (ds := []) #[false, false, false, false, false, false, false, false, false, false, false, false, false] (by kernel_rfl) rfl rfl ⟨(blk_cell BK163.out 0).trans rfl, (blk_cell BK163.out 1).trans rfl, (blk_cell BK163.out 2).trans rfl, (blk_cell BK163.out 3).trans rfl, (blk_cell BK163.out 4).trans rfl, (blk_cell BK163.out 5).trans rfl⟩ (fun hHeld => ?_); refine with_tabW impl_ManifestText.tab10 impl_ManifestText.bits10 (fun HT_ HW_ => ?_)
                        generalize wr.drew = w36 at BK163 HB hHeld ⊢
                        refine pure_ (i := 3) (N := some 63) (v := ?_) (a' := ?_) #[false, false, false, true, false, false, false, false, false, false, false, false, false] rfl rfl (any_of HT_.out (by kernel_rfl)) (fun _ _ _ h => h) (Or.inl ⟨by rfl, ?_⟩) ?_ ?_
                        rotate_left
                        · intro w'
                          go_simp
                          with_reducible rfl
                        rotate_left
                        · simp only [Act.put, List.setIfInBounds_toArray, List.set_cons_zero, List.set_cons_succ, i64_w, i32_w]
                          rfl
                        refine pure_ (i := 7) (N := some 67) (v := ?_) (a' := ?_) #[false, false, false, true, false, false, false, true, false, false, false, false, false] rfl rfl (any_of HT_.out (by kernel_rfl)) (fun _ _ _ h => h) (Or.inl ⟨by rfl, ?_⟩) ?_ ?_
                        rotate_left
                        · intro w'
                          go_simp
                          with_reducible rfl
                        rotate_left
                        · simp only [Act.put, List.setIfInBounds_toArray, List.set_cons_zero, List.set_cons_succ, i64_w, i32_w]
                          rfl
                        refine take_ (i := 0) (N := some 60) (v := ?_) (a' := ?_) #[true, false, false, true, false, false, false, true, false, false, false, false, false] rfl rfl (take_ofW HT_.out HW_.out (by kernel_rfl)) (fun _ _ _ h => h) (Or.inl ⟨by rfl, ?_⟩) hHeld ?_ ?_
                        rotate_left
                        · rintro w' ⟨s0, s1, s2, s3, s4, s5⟩
                          go_simp
                          with_reducible rfl
                        rotate_left
                        · simp only [Act.put, List.setIfInBounds_toArray, List.set_cons_zero, List.set_cons_succ, i64_w, i32_w]
                          rfl
                        refine take_ (i := 4) (N := some 64) (v := ?_) (a' := ?_) #[true, false, false, true, true, false, false, true, false, false, false, false, false] rfl rfl (take_ofW HT_.out HW_.out (by kernel_rfl)) (fun _ _ _ h => h) (Or.inl ⟨by rfl, ?_⟩) hHeld ?_ ?_
                        rotate_left
                        · rintro w' ⟨s0, s1, s2, s3, s4, s5⟩
                          go_simp
                          with_reducible rfl
                        rotate_left
                        · simp only [Act.put, List.setIfInBounds_toArray, List.set_cons_zero, List.set_cons_succ, i64_w, i32_w]
                          rfl
                        refine take_ (i := 8) (N := some 68) (v := ?_) (a' := ?_) #[true, false, false, true, true, false, false, true, true, false, false, false, false] rfl rfl (take_ofW HT_.out HW_.out (by kernel_rfl)) (fun _ _ _ h => h) (Or.inl ⟨by rfl, ?_⟩) hHeld ?_ ?_
                        rotate_left
                        · rintro w' ⟨s0, s1, s2, s3, s4, s5⟩
                          go_simp
                          with_reducible rfl
                        rotate_left
                        · simp only [Act.put, List.setIfInBounds_toArray, List.set_cons_zero, List.set_cons_succ, i64_w, i32_w]
                          rfl
                        refine one_ (i := 1) (N := some 61) #[true, true, false, true, true, false, false, true, true, false, false, false, false] rfl rfl (one_of HT_.out (by kernel_rfl)) (by decide) (fun K hK => ?_)
                        refine goes_ Tryd.func55 (by kernel_rfl) rfl #[.agg #[.string a0_0, .string a0_1, .int .i64 a0_2, .slice A0_3 l0_3.length c0_3, .string a0_4, .int .u64 a0_5]] (by rfl) rfl rfl (by (try simp only [List.map_toArray, List.map_cons, List.map_nil]); first | done | rfl | (simp only [List.length_drop, List.length_take]; rfl)) ?_
                        with_reducible refine (impl_manifestHead.calls k2 a0_0 a0_1 a0_2 _ _ l0_3 a0_4 a0_5 t171 _ ?side1 ?side2 (tab_below HTT.out (by repeat (first | (with_reducible first | exact HB.out | apply below_alloc | apply pw_below_drewN | apply below_drew1 | refine below_set ?_ GE163.out) | exact HB.out))) A29.out).mono ?_
                        (case side1 => repeat (first | exact (Kd.C_below HR0_3.out HB.out) | (with_reducible refine Kd.C_alloc ?_ _) | (with_reducible refine Kd.C_drewN ?_ _) | (with_reducible refine Kd.C_drew ?_)))
                        (case side2 => exact HC0_3.out)
                        rintro e w37 ⟨rfl, hb⟩
                        refine ⟨_, rfl, ?_⟩
                        have n0_ := Aside0.mk (blk_below (g := gb163) (o := .cells #[.string a0_0, .string a0_1, .int .i64 a0_2, .slice A0_3 l0_3.length c0_3, .string a0_4, .int .u64 a0_5] 36 (0, 0)) (by (with_reducible repeat (first | refine blk_drewN ?_ _ | refine blk_drew ?_ | refine blk_alloc ?_ _)); exact BK163.out) hb)
                        have n1_ := Aside0.mk (below_step (by repeat (first | (with_reducible first | exact HB.out | apply below_alloc | apply pw_below_drewN | apply below_drew1 | refine below_set ?_ GE163.out) | exact HB.out)) hb)
                        clear BK163
                        clear HB
                        have BK163 := n0_
                        have HB := n1_
                        clear n0_ n1_
                        (try clear hb)
                        (try clear hb2)
                        (try clear hk)
                        (try clear hi)
                        refine hK.out _ _ ⟨(blk_cell BK163.out 0).trans rfl, (blk_cell BK163.out 1).trans rfl, (blk_cell BK163.out 2).trans rfl, (blk_cell BK163.out 3).trans rfl, (blk_cell BK163.out 4).trans rfl, (blk_cell BK163.out 5).trans rfl⟩ (fun hHeld => ?_)
                        clear hK K
                        refine norm_ (a' := ?_) ?_ ?_
                        rotate_left
                        · show Act.put _ (some 61) _ = _
                          simp only [Act.put, List.setIfInBounds_toArray, List.set_cons_zero, List.set_cons_succ, i64_w, i32_w]
                          rfl
                        refine pure_ (i := 2) (N := some 62) (v := ?_) (a' := ?_) #[true, true, true, true, true, false, false, true, true, false, false, false, false] rfl rfl (any_of HT_.out (by kernel_rfl)) (fun _ _ _ h => h) (Or.inl ⟨by rfl, ?_⟩) ?_ ?_
                        rotate_left
                        · intro w'
                          go_simp
                          with_reducible rfl
                        rotate_left
                        · simp only [Act.put, List.setIfInBounds_toArray, List.set_cons_zero, List.set_cons_succ, i64_w, i32_w]
                          rfl
                        refine pure_ (i := 5) (N := some 65) (v := ?_) (a' := ?_) #[true, true, true, true, true, true, false, true, true, false, false, false, false] rfl rfl (any_of HT_.out (by kernel_rfl)) (fun _ _ _ h => h) (Or.inl ⟨by rfl, ?_⟩) ?_ ?_
                        rotate_left
                        · intro w'
                          go_simp
                          with_reducible rfl
                        rotate_left
                        · simp only [Act.put, List.setIfInBounds_toArray, List.set_cons_zero, List.set_cons_succ, i64_w, i32_w]
                          rfl
                        refine pure_ (i := 6) (N := some 66) (v := ?_) (a' := ?_) #[true, true, true, true, true, true, true, true, true, false, false, false, false] rfl rfl (any_of HT_.out (by kernel_rfl)) (fun _ _ _ h => h) (Or.inl ⟨by rfl, ?_⟩) ?_ ?_
                        rotate_left
                        · intro w'
                          go_simp
                          with_reducible rfl
                        rotate_left
                        · simp only [Act.put, List.setIfInBounds_toArray, List.set_cons_zero, List.set_cons_succ, i64_w, i32_w]
                          rfl
                        refine one_ (i := 9) (N := some 69) #[true, true, true, true, true, true, true, true, true, true, false, false, false] rfl rfl (one_of HT_.out (by kernel_rfl)) (by decide) (fun K hK => ?_)
                        refine goes_ Tryd.func56 (by kernel_rfl) rfl #[.int .u64 a0_5] (by rfl) rfl rfl (by (try simp only [List.map_toArray, List.map_cons, List.map_nil]); first | done | rfl | (simp only [List.length_drop, List.length_take]; rfl)) ?_
                        with_reducible refine (impl_Word32.calls k2 a0_5 t172 _ A33.out).mono ?_
                        rintro e w38 ⟨rfl, hb⟩
                        refine ⟨_, rfl, ?_⟩
                        have n0_ := Aside0.mk (blk_below (g := gb163) (o := .cells #[.string a0_0, .string a0_1, .int .i64 a0_2, .slice A0_3 l0_3.length c0_3, .string a0_4, .int .u64 a0_5] 36 (0, 0)) (by (with_reducible repeat (first | refine blk_drewN ?_ _ | refine blk_drew ?_ | refine blk_alloc ?_ _)); exact BK163.out) hb)
                        have n1_ := Aside0.mk (below_step (by repeat (first | (with_reducible first | exact HB.out | apply below_alloc | apply pw_below_drewN | apply below_drew1 | refine below_set ?_ GE163.out) | exact HB.out)) hb)
                        clear BK163
                        clear HB
                        have BK163 := n0_
                        have HB := n1_
                        clear n0_ n1_
                        (try clear hb)
                        (try clear hb2)
                        (try clear hk)
                        (try clear hi)
                        refine hK.out _ _ ⟨(blk_cell BK163.out 0).trans rfl, (blk_cell BK163.out 1).trans rfl, (blk_cell BK163.out 2).trans rfl, (blk_cell BK163.out 3).trans rfl, (blk_cell BK163.out 4).trans rfl, (blk_cell BK163.out 5).trans rfl⟩ (fun hHeld => ?_)
                        clear hK K
                        refine norm_ (a' := ?_) ?_ ?_
                        rotate_left
                        · show Act.put _ (some 69) _ = _
                          simp only [Act.put, List.setIfInBounds_toArray, List.set_cons_zero, List.set_cons_succ, i64_w, i32_w]
                          rfl
                        refine pure_ (i := 10) (N := some 70) (v := ?_) (a' := ?_) #[true, true, true, true, true, true, true, true, true, true, true, false, false] rfl rfl (any_of HT_.out (by kernel_rfl)) (fun _ _ _ h => h) (Or.inl ⟨by rfl, ?_⟩) ?_ ?_
                        rotate_left
                        · intro w'
                          go_simp
                          with_reducible rfl
                        rotate_left
                        · simp only [Act.put, List.setIfInBounds_toArray, List.set_cons_zero, List.set_cons_succ, i64_w, i32_w]
                          rfl
                        refine pure_ (i := 11) (N := some 71) (v := ?_) (a' := ?_) #[true, true, true, true, true, true, true, true, true, true, true, true, false] rfl rfl (any_of HT_.out (by kernel_rfl)) (fun _ _ _ h => h) (Or.inl ⟨by rfl, ?_⟩) ?_ ?_
                        rotate_left
                        · intro w'
                          go_simp
                          with_reducible rfl
                        rotate_left
                        · simp only [Act.put, List.setIfInBounds_toArray, List.set_cons_zero, List.set_cons_succ, i64_w, i32_w]
                          rfl
                        refine pure_ (i := 12) (N := some 2) (v := ?_) (a' := ?_) #[true, true, true, true, true, true, true, true, true, true, true, true, true] rfl rfl (any_of HT_.out (by kernel_rfl)) (fun _ _ _ h => h) (Or.inl ⟨by rfl, ?_⟩) ?_ ?_
                        rotate_left
                        · intro w'
                          go_simp
                          with_reducible rfl
                        rotate_left
                        · simp only [Act.put, List.setIfInBounds_toArray, List.set_cons_zero, List.set_cons_succ, i64_w, i32_w]
                          rfl
                        refine done_ (done_of HT_.out (by kernel_rfl)) ?_
                        try go_wp2
                        go_ret
                        exact ⟨by first | rfl | (simp [errW_none, errW_some] <;> rfl) | (simp [*, errW_none, errW_some] <;> rfl), by repeat (first | (with_reducible first | exact HB.out | apply below_alloc | apply pw_below_drewN | apply below_drew1 | refine below_set ?_ GE163.out) | exact HB.out)⟩
                      · rw [if_neg c35] at H
                        exact absurd H (by simp)
                    · rw [if_neg c34] at H
                      exact absurd H (by simp)
                  · rw [if_neg c32] at H
                    exact absurd H (by simp)
                · rw [if_neg c31] at H
                  exact absurd H (by simp)
              · rw [if_neg c30] at H
                exact absurd H (by simp)

end Go.Proofs.YtklinldidfdnjaaDoor.PFnExactManifestText
