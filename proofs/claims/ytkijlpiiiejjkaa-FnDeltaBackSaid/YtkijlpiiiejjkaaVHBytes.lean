-- Of the words, what this claim uses: laid by a program of this session.
/- A row of bytes of the call's own that a conversion may have marked one past its end: read, grown by append, set. -/
import Derived.Test.YtkijlpiiiejjkaaVMore
import Derived.Lib.ConvBytes
import Derived.ArgAppend
import Derived.Laws.IdiomCopy
namespace Go.Proofs.YtkijlpiiiejjkaaW.PrintWords
open Go.RowKit Go.Lib
set_option linter.unusedVariables false
/-- A string's bytes. -/
def bytesL (s : ByteArray) : List Int := s.data.toList.map fun b => (b.toNat : Int)
theorem bytesL_length (s : ByteArray) : (bytesL s).length = s.size := by
  unfold bytesL
  rw [List.length_map, Array.length_toList]
  rfl
theorem bytesL_getD (s : ByteArray) (j : Nat) (hj : j < s.size) : (bytesL s).getD j 0 = ((s.data.toList.getD j 0).toNat : Int) := by
  have h : j < s.data.toList.length := by rw [Array.length_toList]; exact hj
  unfold bytesL
  rw [List.getD_eq_getElem?_getD, List.getD_eq_getElem?_getD, List.getElem?_map, List.getElem?_eq_getElem h]
  rfl
theorem below_bytes (w : World) (e : TypeId) (s : ByteArray) : Below w.heap.size w (bytesWorld w e s) :=
  ⟨rfl, rfl, rfl, by rw [bytesWorld_size]; omega, fun k hk => bytesWorld_at_old w e s k hk⟩
/-- The bytes xs in a row of one's own (blocks from base on), with room for cap; of the block's mark nothing is asked but that no cell of the row lies in it. -/
def RowB (e : TypeId) (w : World) (base : Nat) (v : Value) (xs : List Int) : Prop :=
  ∃ g cap, v = .slice (some ⟨g, 0, none⟩) xs.length cap ∧ base ≤ g ∧ g < w.heap.size ∧ xs.length ≤ cap ∧
    (∀ j, j < cap → (w.cell? ⟨g, j, none⟩).isSome = true ∧ w.frozen? ⟨g, j, none⟩ = false) ∧ ∀ j, j < xs.length → w.cell? ⟨g, j, none⟩ = some (.int .u8 (xs.getD j 0))
theorem bytesCells_size (w : World) (e : TypeId) (s : ByteArray) : (bytesCells w e s).size = grownCap w s.size 0 e := by
  have := grownCap_ge w s.size 0 e
  simp only [bytesCells, Array.size_append, Array.size_map, Array.size_replicate]
  show s.size + _ = _
  omega
theorem RowB.new (w : World) (e : TypeId) (s : ByteArray) : RowB e (bytesWorld w e s) w.heap.size (.slice (some ⟨w.heap.size, 0, none⟩) s.size (grownCap w s.size 0 e)) (bytesL s) := by
  refine ⟨w.heap.size, grownCap w s.size 0 e, by rw [bytesL_length], Nat.le_refl _, by rw [bytesWorld_size]; omega, by rw [bytesL_length]; exact grownCap_ge w s.size 0 e, fun j hj => ?_, fun j hj => ?_⟩
  · have hb := bytesWorld_at_new w e s
    have hs := bytesCells_size w e s
    constructor
    · simp [World.cell?, hb]
      omega
    · simp [World.frozen?, hb]
      omega
  · rw [bytesL_length] at hj
    rw [bytesWorld_cell w e s j hj, bytesL_getD s j hj]
theorem RowB.below {e : TypeId} {w w' : World} {base : Nat} {v : Value} {xs : List Int} (h : RowB e w base v xs) (hb : Below w.heap.size w w') : RowB e w' base v xs := by
  obtain ⟨g, cap, rfl, h1, h2, h3, h4, h5⟩ := h
  have hc : ∀ j, w'.cell? ⟨g, j, none⟩ = w.cell? ⟨g, j, none⟩ := fun j => by simp only [World.cell?, hb.block g h2]
  have hf : ∀ j, w'.frozen? ⟨g, j, none⟩ = w.frozen? ⟨g, j, none⟩ := fun j => by simp only [World.frozen?, hb.block g h2]
  exact ⟨g, cap, rfl, h1, by have := hb.size; omega, h3, fun j hj => by rw [hc, hf]; exact h4 j hj, fun j hj => by rw [hc]; exact h5 j hj⟩
theorem RowB.reads {e : TypeId} {w : World} {base : Nat} {v : Value} {xs : List Int} (h : RowB e w base v xs) (hx : xs.length ≤ 9223372036854775807) : ∃ A c, v = .slice A xs.length c ∧ xs.length ≤ c ∧ Kd.C (Kd.int .u8) w A xs.length xs := by
  obtain ⟨g, cap, rfl, h1, h2, h3, h4, h5⟩ := h
  refine ⟨_, _, rfl, h3, ?_⟩
  have hr : ReadsInt w .u8 (some ⟨g, 0, none⟩) xs.length xs := ⟨rfl, hx, fun _ => ⟨_, rfl, fun j hj => by rw [add_plain]; exact h5 j hj⟩⟩
  exact Kd.C_of_reads (d := (0 : Int)) (h1 := fun _ => rfl) hr
/-- '[]byte(s)' where a walk stands: some new row, that reads as the bytes. -/
theorem conv_step {P : Program} {G : Result Value → Prop} {W : World} {src dst e : TypeId} {u : TypeDesc} {s : ByteArray} (hs : P.underlying src = some u) (hd : P.underlying dst = some (.slice e)) (he : P.underlying e = some (.int .u8)) (hz : s.size ≤ 9223372036854775807)
    (h : ∀ g c W1, (bytesL s).length ≤ c → Kd.C (Kd.int .u8) W1 (some ⟨g, 0, none⟩) (bytesL s).length (bytesL s) → Below W.heap.size W W1 → RowB e W1 W.heap.size (.slice (some ⟨g, 0, none⟩) (bytesL s).length c) (bytesL s) → G (.ok (.slice (some ⟨g, 0, none⟩) (bytesL s).length c) W1)) :
    G ((convert src dst (.string s)).run P W) := by
  rw [Go.Lib.run_convert_string_bytes W src dst e s hs hd he]
  have hn := RowB.new W e s
  rw [← bytesL_length s] at hn ⊢
  obtain ⟨A, c, hv, hl, hC⟩ := hn.reads (by rw [bytesL_length]; exact hz)
  injection hv with h1 h2 h3
  subst h1
  subst h3
  exact h _ _ _ hl hC (below_bytes W e s) hn
theorem RowB.raise {e : TypeId} {w : World} {base b2 : Nat} {v : Value} {xs : List Int} (h : RowB e w base v xs) (hb : b2 ≤ base) : RowB e w b2 v xs := by
  obtain ⟨g, cap, rfl, h1, h⟩ := h
  exact ⟨g, cap, rfl, by omega, h⟩
theorem nums_getElem? (ys : List Int) (j : Nat) (u : Value) (h : (nums .u8 ys)[j]? = some u) : j < ys.length ∧ u = .int .u8 (ys.getD j 0) := by
  unfold nums at h
  rw [List.getElem?_map] at h
  obtain ⟨y, hy, rfl⟩ := Option.map_eq_some_iff.1 h
  obtain ⟨hl, rfl⟩ := List.getElem?_eq_some_iff.1 hy
  exact ⟨hl, by rw [List.getD_eq_getElem?_getD, List.getElem?_eq_getElem hl]; rfl⟩
theorem RowB.of_own {e : TypeId} {w : World} {base : Nat} {v : Value} {xs : List Int} (h : w.ownsRow base e 1 v xs.length (nums .u8 xs)) (hp : 0 < xs.length) : RowB e w base v xs := by
  obtain ⟨hl, h⟩ := h
  rcases h with ⟨hv, h0⟩ | ⟨g, cap, cs, hv, hb, hh, hn, hm, hs, ht⟩
  · exfalso
    have : xs = [] := by simpa [nums] using h0
    simp [this] at hp
  · have hg : g < w.heap.size := (Array.getElem?_eq_some_iff.1 hh).1
    refine ⟨g, cap, hv, hb, hg, hn, fun j hj => ⟨?_, ?_⟩, fun j hj => ?_⟩
    · simp [World.cell?, hh]
      omega
    · simp [World.frozen?, hh]
    · have e2 : cs.toList[j]? = (nums .u8 xs)[j]? := by rw [← ht, List.getElem?_take_of_lt (by omega)]
      have e3 : (nums .u8 xs)[j]? = some (.int .u8 (xs.getD j 0)) := by
        unfold nums
        rw [List.getElem?_map, List.getElem?_eq_getElem hj, List.getD_eq_getElem?_getD, List.getElem?_eq_getElem hj]
        rfl
      rw [e3, Array.getElem?_toList] at e2
      simp [World.cell?, hh, e2]
/-- append(v, ys...): ys are cells that are read. -/
theorem RowB.append {P : Program} {w : World} {base : Nat} (t ty e : TypeId) (i : TypeInfo) (ht : P.underlying t = some (.slice e)) (hi : P.info? e = some i) (hz : i.zero = some (.int .u8 0)) (hsz : i.size = 1) (hby : i.bytes = 1)
    {v : Value} {xs : List Int} (h : RowB e w base v xs) (a : Addr) (c : Nat) (ys : List Int) (hys : ∀ j, j < ys.length → w.cell? (a.add j) = some (.int .u8 (ys.getD j 0)))
    (hmax : xs.length + ys.length ≤ 140737488355328) (hbase : base ≤ w.heap.size) :
    ∃ v' w', (Builtin.append_ #[t, t] ty #[v, .slice (some a) ys.length c]).run P w = .ok v' w' ∧ RowB e w' base v' (xs ++ ys) ∧ Below base w w' := by
  obtain ⟨g, cap, rfl, h1, h2, h3, h4, h5⟩ := h
  have hnews : ∀ j u, (nums .u8 ys)[j]? = some u → w.cell? (a.add j) = some u := fun j u hj => by
    obtain ⟨hl, rfl⟩ := nums_getElem? ys j u hj
    exact hys j hl
  have hlen : (nums .u8 ys).length = ys.length := by simp [nums]
  have hone : ∀ u ∈ nums .u8 ys, u.oneCell' = true := fun u hu => by
    obtain ⟨y, _, rfl⟩ := List.mem_map.1 hu
    rfl
  by_cases hr : xs.length + ys.length ≤ cap
  · have hrun := run_append_room_cells (P := P) w t ty e i ht hi g 0 xs.length cap a ys.length c (nums .u8 ys) (by rw [hlen, hsz]; omega) hnews hone hr
      (fun j hj => by rw [hlen] at hj; simpa [hsz] using (h4 (xs.length + j) (by omega)).1) (fun j hj => by rw [hlen] at hj; simpa [hsz] using (h4 (xs.length + j) (by omega)).2)
    rw [hsz, Nat.zero_add, Nat.mul_one] at hrun
    refine ⟨_, _, hrun, ⟨g, cap, by rw [List.length_append], h1, by rw [(setCells_same g _ _ w).2.2.2]; exact h2, by rw [List.length_append]; exact hr, fun j hj => ?_, fun j hj => ?_⟩, ?_⟩
    · rw [World.frozen?_setCells]
      refine ⟨?_, (h4 j hj).2⟩
      by_cases hin : xs.length ≤ j ∧ j < xs.length + ys.length
      · have := World.cell?_setCells_in g (nums .u8 ys) xs.length w (fun q hq => (h4 (xs.length + q) (by rw [hlen] at hq; omega)).1) (j - xs.length) (by rw [hlen]; omega)
        rw [show xs.length + (j - xs.length) = j by omega] at this
        rw [this]; rfl
      · rw [World.cell?_setCells_out g _ _ _ _ (fun _ _ => by rw [hlen]; simp only; omega)]
        exact (h4 j hj).1
    · rw [List.length_append] at hj
      by_cases hin : xs.length ≤ j
      · have hq : j - xs.length < (nums .u8 ys).length := by rw [hlen]; omega
        have := World.cell?_setCells_in g (nums .u8 ys) xs.length w (fun q hq => (h4 (xs.length + q) (by rw [hlen] at hq; omega)).1) (j - xs.length) hq
        rw [show xs.length + (j - xs.length) = j by omega] at this
        obtain ⟨_, hy⟩ := nums_getElem? ys (j - xs.length) _ (List.getElem?_eq_getElem hq)
        rw [this, hy, List.getD_eq_getElem?_getD, List.getD_eq_getElem?_getD, List.getElem?_append_right hin]
      · rw [World.cell?_setCells_out g _ _ _ _ (fun _ _ => by rw [hlen]; simp only; omega), h5 j (by omega), List.getD_eq_getElem?_getD, List.getD_eq_getElem?_getD, List.getElem?_append_left (by omega)]
    · obtain ⟨s1, s2, s3, s4⟩ := setCells_same g (nums .u8 ys) xs.length w
      exact ⟨s1, s2, s3, by rw [s4]; exact Nat.le_refl _, fun k hk => setCells_far _ _ k (by omega)⟩
  · obtain ⟨v', w', hrun, ho, hg⟩ := run_append_arg_grows (P := P) w t ty e i (.int .u8 0) 1 1 ht hi hz hsz hby rfl (by decide) ⟨g, 0, none⟩ xs.length cap (nums .u8 xs) (by simp [nums]) (fun j u hj => by
        obtain ⟨hl, rfl⟩ := nums_getElem? xs j u hj
        rw [add_plain]; exact h5 j hl) a ys.length c (nums .u8 ys) (by rw [hlen]; omega) hnews (by omega) (by simp only [maxLen]; omega) (by omega)
    refine ⟨v', w', hrun, (RowB.of_own (by rw [nums_append, List.length_append]; exact ho) (by rw [List.length_append]; omega)).raise hbase, hg.os, hg.tape, hg.output, hg.size, fun k hk => hg.block k (by omega) (by simp)⟩
/-- append(v, ys...): ys are read. -/
theorem RowB.append_C {P : Program} {w : World} {base : Nat} (t ty e : TypeId) (i : TypeInfo) (ht : P.underlying t = some (.slice e)) (hi : P.info? e = some i) (hz : i.zero = some (.int .u8 0)) (hsz : i.size = 1) (hby : i.bytes = 1)
    {v : Value} {xs : List Int} (h : RowB e w base v xs) (A : Option Addr) (c : Nat) (ys : List Int) (hys : Kd.C (Kd.int .u8) w A ys.length ys)
    (hmax : xs.length + ys.length ≤ 140737488355328) (hbase : base ≤ w.heap.size) :
    ∃ v' w', (Builtin.append_ #[t, t] ty #[v, .slice A ys.length c]).run P w = .ok v' w' ∧ RowB e w' base v' (xs ++ ys) ∧ Below base w w' := by
  have hr := (Kd.reads_of_C (enc := Value.int .u8) (d := (0 : Int)) (h1 := fun _ => rfl) hys).2.2
  cases A with
  | some a =>
    refine RowB.append t ty e i ht hi hz hsz hby h a c ys (fun j hj => ?_) hmax hbase
    obtain ⟨ad, he, hc⟩ := hr (by omega)
    injection he with he
    subst he
    exact hc j hj
  | none =>
    have h0 : ys = [] := by
      by_cases hp : 0 < ys.length
      · obtain ⟨ad, he, _⟩ := hr hp
        cases he
      · exact List.eq_nil_of_length_eq_zero (by omega)
    subst h0
    obtain ⟨g, cap, rfl, h1, h2, h3, h4, h5⟩ := h
    refine ⟨.slice (some ⟨g, 0, none⟩) xs.length cap, w, ?_, ⟨g, cap, by simp, h1, h2, by simpa using h3, h4, by simpa using h5⟩, Below.refl _ _⟩
    simp [Builtin.append_, run_underlying ht, sizeOf, typeInfo, hi, Builtin.lenOf, h3, Builtin.firstCells, storeCells]
/-- The same, at a step of a region that draws its order. -/
theorem RowB.step {P : Program} {ops : Array Oper} {o : Oper} {a : Act} {K : Act → World → Prop} {Q : Exit → Act → World → Prop} {E : Prop} {W : World} (base : Nat) (hw : Region.wanted o (yielded ops a.tmps) = true) (s x : Operand) (t e : TypeId)
    (ho : o.op = .call { callee := .builtin .append, args := #[s, x], argTypes := #[t, t] })
    (ht : P.underlying t = some (.slice e)) (hinfo : (P.info? e).map (fun i => (i.zero, i.size, i.bytes)) = some (some (.int .u8 0), 1, 1))
    {v : Value} {xs : List Int} {A : Option Addr} {c : Nat} {ys : List Int} (HR : RowB e W base v xs) (HC : Kd.C (Kd.int .u8) W A ys.length ys) (hs : a.eval s = v) (hx : a.eval x = .slice A ys.length c)
    (hmax : xs.length + ys.length ≤ 140737488355328) (hbase : base ≤ W.heap.size)
    (h : ∀ v1 w1, RowB e w1 base v1 (xs ++ ys) → Below base W w1 → K (a.put o.dst v1) w1) : if Region.wanted o (yielded ops a.tmps) = true then Oper.wp P o a W K Q else E := by
  obtain ⟨i0, hi, hzz⟩ := Option.map_eq_some_iff.1 hinfo
  simp only [Prod.mk.injEq] at hzz
  obtain ⟨hz0, hz1, hz2⟩ := hzz
  obtain ⟨v1, w1, hrun, hR, hB⟩ := RowB.append_C (P := P) t o.type e i0 ht hi hz0 hz1 hz2 HR A c ys HC hmax hbase
  rw [if_pos hw]
  unfold Oper.wp
  simp [execOp, ho, resolve, invoke, builtin, hs, hx, hrun, Result.andThen]
  exact h v1 w1 hR hB
end Go.Proofs.YtkijlpiiiejjkaaW.PrintWords
