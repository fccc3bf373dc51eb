/- A row of bytes of the call's own: a conversion in a region that draws its order; append of a string's bytes. -/
import Derived.Test.YtklinldidfdnjaaDoorHBytes
import Derived.Lib.AppendStr
namespace Go.Proofs.YtklinldidfdnjaaDoorW.PrintWords
open Go.RowKit Go.Lib
set_option linter.unusedVariables false
set_option linter.unusedSimpArgs false
theorem nums_bytesL (s : ByteArray) : nums .u8 (bytesL s) = Lib.strCells s := by
  unfold nums bytesL Lib.strCells
  rw [List.map_map]
  rfl
theorem RowB.append_str {P : Program} {w : World} {base : Nat} (t u ty e : TypeId) (i : TypeInfo) (ht : P.underlying t = some (.slice e)) (hu : P.underlying u = some .string) (hi : P.info? e = some i) (hz : i.zero = some (.int .u8 0)) (hsz : i.size = 1) (hby : i.bytes = 1)
    {v : Value} {xs : List Int} (h : RowB e w base v xs) (s : ByteArray) (hmax : xs.length + s.size ≤ 140737488355328) (hbase : base ≤ w.heap.size) :
    ∃ v' w', (Builtin.append_ #[t, u] ty #[v, .string s]).run P w = .ok v' w' ∧ RowB e w' base v' (xs ++ bytesL s) ∧ Below base w w' := by
  obtain ⟨g, cap, rfl, h1, h2, h3, h4, h5⟩ := h
  obtain ⟨ys, hys⟩ : ∃ ys, ys = bytesL s := ⟨_, rfl⟩
  have hyl : ys.length = s.size := by rw [hys, bytesL_length]
  have hlen : (nums .u8 ys).length = ys.length := by simp [nums]
  have hcs : nums .u8 ys = Lib.strCells s := by rw [hys, nums_bytesL]
  rw [← hys]
  by_cases hr : xs.length + s.size ≤ cap
  · have hf := run_firstCells_string (P := P) w 1 s
    have hst := run_storeCells_cells (P := P) g xs.length (nums .u8 ys) 0 w (fun j hj => by rw [hlen] at hj; simpa using (h4 (xs.length + j) (by omega)).1) (fun j hj => by rw [hlen] at hj; simpa using (h4 (xs.length + j) (by omega)).2) (by rw [hcs]; exact strCells_oneCell s)
    have hrun : (Builtin.append_ #[t, u] ty #[.slice (some ⟨g, 0, none⟩) xs.length cap, .string s]).run P w = .ok (.slice (some ⟨g, 0, none⟩) (xs.length + s.size) cap) (w.setCells g xs.length (nums .u8 ys)) := by
      simp only [Nat.add_zero] at hst
      rw [hcs] at hst ⊢
      simp [Builtin.append_, run_underlying ht, run_underlying hu, sizeOf, typeInfo, hi, hsz, Builtin.lenOf, hr, hf, Addr.add_lit, hst]
    rw [← hyl] at hr hrun
    refine ⟨_, _, hrun, ⟨g, cap, by rw [List.length_append], h1, by rw [(setCells_same g _ _ w).2.2.2]; exact h2, by rw [List.length_append]; exact hr, fun j hj => ?_, fun j hj => ?_⟩, ?_⟩
    · rw [World.frozen?_setCells]
      refine ⟨?_, (h4 j hj).2⟩
      by_cases hin : xs.length ≤ j ∧ j < xs.length + ys.length
      · have := World.cell?_setCells_in g (nums .u8 ys) xs.length w (fun q hq => (h4 (xs.length + q) (by rw [hlen] at hq; omega)).1) (j - xs.length) (by rw [hlen]; omega)
        rw [show xs.length + (j - xs.length) = j by omega] at this
        rw [this]; rfl
      · rw [World.cell?_setCells_out g _ _ _ _ (fun _ _ => by rw [hlen]; simp only; omega)]
        exact (h4 j hj).1
    · rw [List.length_append] at hj
      by_cases hin : xs.length ≤ j
      · have hq : j - xs.length < (nums .u8 ys).length := by rw [hlen]; omega
        have := World.cell?_setCells_in g (nums .u8 ys) xs.length w (fun q hq => (h4 (xs.length + q) (by rw [hlen] at hq; omega)).1) (j - xs.length) hq
        rw [show xs.length + (j - xs.length) = j by omega] at this
        obtain ⟨_, hy⟩ := nums_getElem? ys (j - xs.length) _ (List.getElem?_eq_getElem hq)
        rw [this, hy, List.getD_eq_getElem?_getD, List.getD_eq_getElem?_getD, List.getElem?_append_right hin]
      · rw [World.cell?_setCells_out g _ _ _ _ (fun _ _ => by rw [hlen]; simp only; omega), h5 j (by omega), List.getD_eq_getElem?_getD, List.getD_eq_getElem?_getD, List.getElem?_append_left (by omega)]
    · obtain ⟨s1, s2, s3, s4⟩ := setCells_same g (nums .u8 ys) xs.length w
      exact ⟨s1, s2, s3, by rw [s4]; exact Nat.le_refl _, fun k hk => setCells_far _ _ k (by omega)⟩
  · have holds : ∀ j u, (nums .u8 xs)[j]? = some u → w.cell? ((⟨g, 0, none⟩ : Addr).add j) = some u := fun j u hj => by
      obtain ⟨hl, rfl⟩ := nums_getElem? xs j u hj
      rw [add_plain]; exact h5 j hl
    have hrun := run_append_grow_string (P := P) w t u ty e i (.int .u8 0) ht hu hi hz ⟨g, 0, none⟩ xs.length cap (nums .u8 xs) (by simp [nums, hsz]) holds s (by omega) (by omega) (growslice_fits (by omega) (by rw [hby]; omega))
    rw [← hcs] at hrun
    have hge := grownCap_ge w (xs.length + s.size) cap e
    have hcm : grownCap w (xs.length + s.size) cap e ≤ maxLen := grownCap_le_maxLen w (xs.length + s.size) cap e (by simp only [maxLen]; omega)
    have hxl : (nums .u8 xs).length = xs.length := by simp [nums]
    refine ⟨_, _, hrun, (RowB.of_own (w := w.drew.alloc _) (base := w.heap.size) ?_ (by rw [List.length_append]; omega)).raise hbase, ⟨rfl, rfl, rfl, by simp, fun k hk => heap_alloc_old w.drew _ (show k < w.drew.heap.size from Nat.lt_of_lt_of_le hk hbase)⟩⟩
    rw [nums_append]
    refine ⟨by rw [List.length_append, hlen, hxl, List.length_append, Nat.mul_one], .inr ⟨w.heap.size, _, _, by rw [List.length_append, hyl], Nat.le_refl _, heap_alloc_new w.drew _, by rw [List.length_append, hyl]; exact hge, hcm, ?_, ?_⟩⟩
    · simp only [Array.size_append, List.size_toArray, size_zeroCells, hlen, hxl, hyl]
      show _ + (grownCap w (xs.length + s.size) cap e - (xs.length + s.size)) * (Value.int .u8 0).cells.size = _
      rw [show (Value.int .u8 0).cells.size = 1 from rfl]
      omega
    · simp only [Array.toList_append, List.append_assoc]
      rw [← List.append_assoc, ← nums_append]
      rw [show (xs ++ ys).length * 1 = (nums .u8 (xs ++ ys)).length by simp [nums]]
      exact List.take_left
/-- append(v, s...), s a string, in a walk. -/
theorem RowB.append_str_wp {P : Program} {ops : Array Oper} {rest : List Oper} {o : Oper} {a : Act} {Q : Exit → Act → World → Prop} {W : World} (base : Nat) (hgd : o.guard = none) (s x : Operand) (t u e : TypeId)
    (ho : o.op = .call { callee := .builtin .append, args := #[s, x], argTypes := #[t, u] })
    (ht : P.underlying t = some (.slice e)) (hu : P.underlying u = some .string) (hinfo : (P.info? e).map (fun i => (i.zero, i.size, i.bytes)) = some (some (.int .u8 0), 1, 1))
    {v : Value} {xs : List Int} {y : ByteArray} (HR : RowB e W base v xs) (hs : a.eval s = v) (hx : a.eval x = .string y)
    (hmax : xs.length + y.size ≤ 140737488355328) (hbase : base ≤ W.heap.size)
    (h : ∀ v1 w1, RowB e w1 base v1 (xs ++ bytesL y) → Below base W w1 → wpList P ops Q rest (a.put o.dst v1) w1) : wpList P ops Q (o :: rest) a W := by
  obtain ⟨i0, hi, hzz⟩ := Option.map_eq_some_iff.1 hinfo
  simp only [Prod.mk.injEq] at hzz
  obtain ⟨hz0, hz1, hz2⟩ := hzz
  obtain ⟨v1, w1, hrun, hR, hB⟩ := RowB.append_str (P := P) t u o.type e i0 ht hu hi hz0 hz1 hz2 HR y hmax hbase
  refine wpList_plain hgd fun K hK => ?_
  unfold Oper.wp
  simp [execOp, ho, resolve, invoke, builtin, hs, hx, hrun, Result.andThen]
  exact hK _ _ (h v1 w1 hR hB)
/-- '[]byte(s)' at a step of a region that draws its order. -/
theorem conv_one {P : Program} {ops : Array Oper} {o : Oper} {N : Option Tmp} {a : Act} {K : Act → World → Prop} {Q : Exit → Act → World → Prop} {E : Prop} {W : World} (hw : Region.wanted o (yielded ops a.tmps) = true) (hN : o.dst = N) (x : Operand) {src dst e : TypeId} {u : TypeDesc} {s : ByteArray}
    (ho : o.op = .convert src dst x) (hx : a.eval x = .string s) (hs : P.underlying src = some u) (hd : P.underlying dst = some (.slice e)) (he : P.underlying e = some (.int .u8)) (hz : s.size ≤ 9223372036854775807)
    (h : ∀ g c W1, Below W.heap.size W W1 → RowB e W1 W.heap.size (.slice (some ⟨g, 0, none⟩) (bytesL s).length c) (bytesL s) → K (a.put N (.slice (some ⟨g, 0, none⟩) (bytesL s).length c)) W1) : if Region.wanted o (yielded ops a.tmps) = true then Oper.wp P o a W K Q else E := by
  obtain ⟨g, c, W1, hrun, hb, hR⟩ : ∃ g c W1, (convert src dst (.string s)).run P W = .ok (.slice (some ⟨g, 0, none⟩) (bytesL s).length c) W1 ∧ Below W.heap.size W W1 ∧ RowB e W1 W.heap.size (.slice (some ⟨g, 0, none⟩) (bytesL s).length c) (bytesL s) :=
    conv_step (G := fun z => ∃ g c W1, z = .ok (.slice (some ⟨g, 0, none⟩) (bytesL s).length c) W1 ∧ Below W.heap.size W W1 ∧ RowB e W1 W.heap.size (.slice (some ⟨g, 0, none⟩) (bytesL s).length c) (bytesL s)) hs hd he hz fun g c W1 _ _ hb hR => ⟨g, c, W1, rfl, hb, hR⟩
  rw [if_pos hw]
  subst hN
  unfold Oper.wp
  simp [execOp, ho, hx, hrun, Result.andThen]
  exact h g c W1 hb hR
end Go.Proofs.YtklinldidfdnjaaDoorW.PrintWords
