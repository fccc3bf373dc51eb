-- Laid by a program of this session: a turned copy of the kit's print, with contracts by hand beside.
import Derived.Test.YtklinldidfdnjaaDoorPFnExactFindEntryx0
import Derived.Test.YtklinldidfdnjaaDoorPFnExactFindEntryx5
import Derived.Test.YtklinldidfdnjaaDoorPFnExactFindEntryx6
namespace Go.Proofs.YtklinldidfdnjaaDoor.PFnExactFindEntry
open Go.RowKit Go.Proofs.YtklinldidfdnjaaDoorW.PrintWords Go.Proofs.YtklinldidfdnjaaDoorW.PrintLast Go.Proofs.YtklinldidfdnjaaDoorW.PrintMore
attribute [local go_sem] max2_int min2_int max_two min_two max_three min_three max_four min_four   -- for this text's walks alone
set_option linter.unusedVariables false
set_option linter.unusedSimpArgs false

/-! ### impl_TreeOk: function 27 -/
def dirsOf (l : List S79) : List ByteArray := (l.filter fun e => e.f1 == 1).map fun e => e.f0
def seenF (l : List S79) (s : ByteArray) : Option Int := some (if seenW (dirsOf l) s = true then 1 else 0)
theorem impl_TreeOk.zero3 (w : World) : (zeroValue 3).run Tryd.prog w = .ok (.int .i64 0) w := by kernel_rfl
theorem own_below {w w' : World} {P : Program} {k : TypeId} {R : Value → Option (DataW Unit × List MemPlace)} {b n s : Nat} {D : DataW Unit} (h : w.ownsMap P k R b n D) (hB : Below s w w') (hb : b < s) : w'.ownsMap P k R b n D := by
  obtain ⟨es, clock, h1, F, hs, hD⟩ := h
  exact ⟨es, clock, (hB.block b hb).trans h1, F, hs, hD⟩
theorem below_on {w wm w' : World} (h : Below w.heap.size w wm) (k : Below wm.heap.size wm w') : Below w.heap.size w w' := h.trans (k.mono h.size)
theorem below_drawn {B : Nat} {a w w' : World} (h : Below B a w) (k : Drawn0 w w') : Below B a w' := by
  obtain ⟨n, rfl⟩ := k
  exact pw_below_drewN h n
/-- The map holds the directories among the entries ahead of the x-th; wm is the world of its last writing. -/
def TM (w wm : World) (l : List S79) (x : Int) : Prop := Below w.heap.size w wm ∧ ∃ nn, nn ≤ x.toNat ∧ wm.ownsMap Tryd.prog 9 (plainElem Tryd.prog 3) w.heap.size nn (seenMap (dirsOf (l.take x.toNat)))
theorem TM_start (w : World) (l : List S79) : TM w (w.alloc (.map #[] 0)) l 0 := ⟨(Below.refl _ _).alloc (Nat.le_refl _) _, 0, Nat.zero_le _, World.ownsMap_made _ _ _ _⟩
theorem dirs_next (l : List S79) (x : Int) (h0 : 0 ≤ x) (h1 : x < (l.length : Int)) : dirsOf (l.take (x + 1).toNat) = if (rd_T79 l x).f1 = 1 then dirsOf (l.take x.toNat) ++ [(rd_T79 l x).f0] else dirsOf (l.take x.toNat) := by
  have h : x.toNat < l.length := by omega
  have e : (x + 1).toNat = x.toNat + 1 := by omega
  have e2 : rd_T79 l x = l[x.toNat] := by
    unfold rd_T79
    simp [List.getD_eq_getElem?_getD, List.getElem?_eq_getElem h]
  rw [e, ← List.take_append_getElem h, e2]
  unfold dirsOf
  rw [List.filter_append, List.map_append]
  by_cases c : (l[x.toNat]).f1 = 1
  · rw [if_pos c]
    simp [c]
  · rw [if_neg c]
    simp [c]
theorem TM_skip {w wm : World} {l : List S79} {x : Int} (h : TM w wm l x) (h0 : 0 ≤ x) (h1 : x < (l.length : Int)) (h5 : l.length ≤ 500) (hd : (rd_T79 l x).f1 ≠ 1) : TM w wm l (wrap64 (x + 1)) := by
  obtain ⟨hB, nn, hn, ho⟩ := h
  have e : wrap64 (x + 1) = x + 1 := by unfold wrap64; omega
  refine ⟨hB, nn, by rw [e]; omega, ?_⟩
  rw [e, dirs_next l x h0 h1, if_neg hd]
  exact ho
theorem TM_put {w wm wc w1 : World} {l : List S79} {x : Int} {nn : Nat} (hB : Below w.heap.size w wm) (hn : nn ≤ x.toNat) (hC : Below wm.heap.size wm wc) (hg : wc.grownBy w1 (some w.heap.size)) (h0 : 0 ≤ x) (h1 : x < (l.length : Int)) (h5 : l.length ≤ 500) (hd : (rd_T79 l x).f1 = 1)
    (ho : w1.ownsMap Tryd.prog 9 (plainElem Tryd.prog 3) w.heap.size (nn + 1) ((seenMap (dirsOf (l.take x.toNat))).put (skey (rd_T79 l x).f0) (.lit (.int .i64 1)))) : TM w w1 l (wrap64 (x + 1)) := by
  have e : wrap64 (x + 1) = x + 1 := by unfold wrap64; omega
  refine ⟨(below_on hB hC).grown hg (Nat.le_trans hB.size hC.size) (fun j hj => by cases hj; exact Nat.le_refl _), nn + 1, by rw [e]; omega, ?_⟩
  rw [e, dirs_next l x h0 h1, if_pos hd, seenMap_snoc]
  exact ho
theorem TM_look {w wm w' : World} {l : List S79} {x : Int} {s : ByteArray} {c : Int} (h : TM w wm l x) (hx : (l.length : Int) ≤ x) (hB : Below wm.heap.size wm w') (hs : s.size ≤ maxLen) (hf : seenF l s = some c) : (Instr.lookup 83 (.map (some w.heap.size)) (.string s) false).run Tryd.prog w' = .ok (.int .i64 c) w' := by
  obtain ⟨hB0, nn, hn, ho⟩ := h
  have hkey : keyOf Tryd.prog 9 (.string s) = some (skey s) := Go.WideMaps.keyOf_string_mk Tryd.underlying9 hs
  obtain ⟨d, hrun, hat, _⟩ := (own_below ho hB ho.lt).lookup_int (Go.Maps.string_keyed Tryd.underlying9) Tryd.underlying83 Tryd.underlying3 (impl_TreeOk.zero3 _) hkey
  rw [List.take_of_length_le (by omega), seenMap_at] at hat
  obtain rfl : (if seenW (dirsOf l) s = true then (1 : Int) else 0) = d := congrArg (fun x : DataW Unit => match x with | .lit (.int _ c) => c | _ => 0) hat
  obtain rfl := Option.some.inj hf
  exact hrun
theorem upper_size (k : Nat) (s p : ByteArray) (b : Bool) (h : impl_upper.f k s = some (p, b)) : p.size ≤ s.size := by
  unfold impl_upper.f at h
  obtain ⟨t, _, h⟩ := Option.bind_eq_some_iff.mp h
  split at h
  · obtain ⟨rfl, rfl⟩ := Prod.mk.inj (Option.some.inj h)
    exact Nat.zero_le _
  · split at h
    · split at h
      · obtain ⟨rfl, rfl⟩ := Prod.mk.inj (Option.some.inj h)
        rw [ByteArray.size_extract]
        omega
      · exact absurd h (by simp)
    · exact absurd h (by simp)
theorem name_size {l : List S79} (h : (l.all fun e => decide (e.f0.size ≤ 9223372036854775807)) = true) (x : Int) (h0 : 0 ≤ x) (h1 : x < (l.length : Int)) : (rd_T79 l x).f0.size ≤ maxLen := by
  have hx : x.toNat < l.length := by omega
  have e2 : rd_T79 l x = l[x.toNat] := by
    unfold rd_T79
    simp [List.getD_eq_getElem?_getD, List.getElem?_eq_getElem hx]
  rw [e2]
  have := List.all_eq_true.mp h _ (List.getElem_mem hx)
  simpa [maxLen] using this
theorem tleq_tri : ∀ a b : List UInt8, (Op.bytesLess a b = true ∧ Op.bytesLess b a = false ∧ (b == a) = false) ∨ (a = b ∧ Op.bytesLess a b = false) ∨ (Op.bytesLess b a = true ∧ Op.bytesLess a b = false ∧ (b == a) = false)
  | [], [] => Or.inr (Or.inl ⟨rfl, rfl⟩)
  | [], y :: b => Or.inl ⟨rfl, rfl, rfl⟩
  | x :: a, [] => Or.inr (Or.inr ⟨rfl, rfl, rfl⟩)
  | x :: a, y :: b => by
    have hlt : ∀ p q : UInt8, p < q ↔ p.toNat < q.toNat := fun p q => UInt8.lt_iff_toNat_lt
    have heq : ∀ p q : UInt8, p = q ↔ p.toNat = q.toNat := fun p q => ⟨fun h => by rw [h], fun h => UInt8.toNat_inj.1 h⟩
    unfold Op.bytesLess
    by_cases h1 : x < y
    · have h2 : ¬ y < x := by rw [hlt] at *; omega
      have h3 : ¬ x = y := by rw [hlt, heq] at *; omega
      exact Or.inl ⟨by simp [h1], by simp [h2, Ne.symm h3], by simp [Ne.symm h3]⟩
    · by_cases h2 : y < x
      · have h3 : ¬ x = y := by rw [hlt, heq] at *; omega
        exact Or.inr (Or.inr ⟨by simp [h2], by simp [h1, h3], by simp [Ne.symm h3]⟩)
      · have h3 : x = y := by rw [hlt] at *; rw [heq]; omega
        subst h3
        rcases tleq_tri a b with ⟨p, q, r⟩ | ⟨p, q⟩ | ⟨p, q, r⟩
        · exact Or.inl ⟨by simp [p], by simp [h1, q], by simpa using r⟩
        · exact Or.inr (Or.inl ⟨by rw [p], by simp [h1, q]⟩)
        · exact Or.inr (Or.inr ⟨by simp [p], by simp [h1, q], by simpa using r⟩)
theorem tleq_l1 {a b : List UInt8} (h : Op.bytesLess a b = true) : Op.bytesLess b a = false := by
  rcases tleq_tri a b with ⟨p, q, r⟩ | ⟨p, q⟩ | ⟨p, q, r⟩
  · exact q
  · rw [h] at q; cases q
  · rw [h] at q; cases q
theorem tleq_l2 {a b : List UInt8} (h : Op.bytesLess a b = true) : (b == a) = false := by
  rcases tleq_tri a b with ⟨p, q, r⟩ | ⟨p, q⟩ | ⟨p, q, r⟩
  · exact r
  · rw [h] at q; cases q
  · exact r
theorem tleq_l3 {a b : List UInt8} (h : Op.bytesLess a b = false) : (Op.bytesLess b a || b == a) = true := by
  rcases tleq_tri a b with ⟨p, q, r⟩ | ⟨p, q⟩ | ⟨p, q, r⟩
  · rw [h] at p; cases p
  · rw [p]; simp
  · rw [p]; rfl
mutual
def impl_TreeOk.l0 : Nat → List (S79) → List (S79) → Int → Int → Option (Bool)
  | 0, _, _, _, _ => none
  | k + 1, x0, x14, x15, x16 => if x16 < x15 then (if 0 ≤ x16 then (if x16 < (x14.length : Int) then ((impl_pathOk.f k ((rd_T79 x14 x16).f0)).bind fun t157 => (if t157 = true then (if x16 > 0 then (if 0 ≤ (wrap64 (x16 - 1)) then (if (wrap64 (x16 - 1)) < (x0.length : Int) then (if ((Op.bytesLess (((rd_T79 x0 (wrap64 (x16 - 1))).f0).toList) (((rd_T79 x14 x16).f0).toList)) = true) then (if (rd_T79 x14 x16).f3 = true then (impl_TreeOk.j1 k x0 x14 x15 x16 (((rd_T79 x14 x16).f1) != 2) ((rd_T79 x14 x16).f0) ((rd_T79 x14 x16).f1) ((rd_T79 x14 x16).f2) ((rd_T79 x14 x16).f3)) else (impl_TreeOk.j1 k x0 x14 x15 x16 false ((rd_T79 x14 x16).f0) ((rd_T79 x14 x16).f1) ((rd_T79 x14 x16).f2) ((rd_T79 x14 x16).f3))) else (impl_TreeOk.j1 k x0 x14 x15 x16 true ((rd_T79 x14 x16).f0) ((rd_T79 x14 x16).f1) ((rd_T79 x14 x16).f2) ((rd_T79 x14 x16).f3))) else (none)) else (none)) else (if (rd_T79 x14 x16).f3 = true then (impl_TreeOk.j1 k x0 x14 x15 x16 (((rd_T79 x14 x16).f1) != 2) ((rd_T79 x14 x16).f0) ((rd_T79 x14 x16).f1) ((rd_T79 x14 x16).f2) ((rd_T79 x14 x16).f3)) else (impl_TreeOk.j1 k x0 x14 x15 x16 false ((rd_T79 x14 x16).f0) ((rd_T79 x14 x16).f1) ((rd_T79 x14 x16).f2) ((rd_T79 x14 x16).f3)))) else (impl_TreeOk.j1 k x0 x14 x15 x16 true ((rd_T79 x14 x16).f0) ((rd_T79 x14 x16).f1) ((rd_T79 x14 x16).f2) ((rd_T79 x14 x16).f3)))) else (none)) else (none)) else (impl_TreeOk.l1 k x0 (x0.length : Int) 0)
def impl_TreeOk.j1 : Nat → List (S79) → List (S79) → Int → Int → Bool → ByteArray → Int → ByteArray → Bool → Option (Bool)
  | 0, _, _, _, _, _, _, _, _, _ => none
  | k + 1, x0, x14, x15, x16, x48, x157000, x157001, x157002, x157003 => if x48 = true then (some false) else (if x157001 = 1 then (if x157002.toList = ([] : List UInt8) then (impl_TreeOk.l0 k x0 x14 x15 (wrap64 (x16 + 1))) else (some false)) else (if x157001 = 2 then (if (x157002.size : Int) > 20000 then (some false) else (impl_TreeOk.l0 k x0 x14 x15 (wrap64 (x16 + 1)))) else (if x157001 = 3 then (if (x157002.size : Int) < 1 then (some false) else (if (x157002.size : Int) > 20000 then (some false) else (impl_TreeOk.l0 k x0 x14 x15 (wrap64 (x16 + 1))))) else (some false))))
def impl_TreeOk.l1 : Nat → List (S79) → Int → Int → Option (Bool)
  | 0, _, _, _ => none
  | k + 1, x78, x79, x80 => if x80 < x79 then (if 0 ≤ x80 then (if x80 < (x78.length : Int) then ((impl_upper.f k ((rd_T79 x78 x80).f0)).bind fun bt161 => (if bt161.2 = true then ((seenF x78 bt161.1).bind fun t163 => (if t163 = 0 then (some false) else (impl_TreeOk.l1 k x78 x79 (wrap64 (x80 + 1))))) else (impl_TreeOk.l1 k x78 x79 (wrap64 (x80 + 1))))) else (none)) else (none)) else (some true)
end
def impl_TreeOk.f (k : Nat) (l0 : List (S79)) : Option (Bool) := if (l0.length : Int) > 500 then (some false) else (if (l0.all fun e => decide (e.f0.size ≤ 9223372036854775807)) = true then (impl_TreeOk.l0 k l0 l0 (l0.length : Int) 0) else none)
theorem impl_TreeOk.mono_l : ∀ k, (∀ y0 y1 y2 y3, LeO (impl_TreeOk.l0 k y0 y1 y2 y3) (impl_TreeOk.l0 (k + 1) y0 y1 y2 y3)) ∧ (∀ y0 y1 y2 y3 y4 y5 y6 y7 y8, LeO (impl_TreeOk.j1 k y0 y1 y2 y3 y4 y5 y6 y7 y8) (impl_TreeOk.j1 (k + 1) y0 y1 y2 y3 y4 y5 y6 y7 y8)) ∧ (∀ y0 y1 y2, LeO (impl_TreeOk.l1 k y0 y1 y2) (impl_TreeOk.l1 (k + 1) y0 y1 y2))
  | 0 => ⟨fun _ _ _ _ r h => by simp [impl_TreeOk.l0] at h, fun _ _ _ _ _ _ _ _ _ r h => by simp [impl_TreeOk.j1] at h, fun _ _ _ r h => by simp [impl_TreeOk.l1] at h⟩
  | k + 1 => by
    obtain ⟨ih0, ih1, ih2⟩ := impl_TreeOk.mono_l k
    refine ⟨?_, ?_, ?_⟩
    · intro y0 y1 y2 y3
      unfold impl_TreeOk.l0
      repeat' first
      | (with_reducible exact ih0 _ _ _ _)
      | (with_reducible exact ih1 _ _ _ _ _ _ _ _ _)
      | (with_reducible exact ih2 _ _ _)
      | (with_reducible exact impl_pathOk.mono _ _)
      | (with_reducible exact impl_upper.mono _ _)
      | (with_reducible exact strings_LastIndexByte.mono _ _ _)
      | (with_reducible exact LeO.refl _)
      | (with_reducible exact LeO.none _)
      | (with_reducible refine LeO.ite ?_ ?_)
      | (with_reducible refine LeO.bind ?_ (fun _ => ?_))
      | exact ih0 _ _ _ _
      | exact ih1 _ _ _ _ _ _ _ _ _
      | exact ih2 _ _ _
      | exact impl_pathOk.mono _ _
      | exact impl_upper.mono _ _
      | exact strings_LastIndexByte.mono _ _ _
      | exact LeO.none _
      | refine LeO.ite ?_ ?_
      | refine LeO.bind ?_ (fun _ => ?_)
    · intro y0 y1 y2 y3 y4 y5 y6 y7 y8
      unfold impl_TreeOk.j1
      repeat' first
      | (with_reducible exact ih0 _ _ _ _)
      | (with_reducible exact ih1 _ _ _ _ _ _ _ _ _)
      | (with_reducible exact ih2 _ _ _)
      | (with_reducible exact impl_pathOk.mono _ _)
      | (with_reducible exact impl_upper.mono _ _)
      | (with_reducible exact strings_LastIndexByte.mono _ _ _)
      | (with_reducible exact LeO.refl _)
      | (with_reducible exact LeO.none _)
      | (with_reducible refine LeO.ite ?_ ?_)
      | (with_reducible refine LeO.bind ?_ (fun _ => ?_))
      | exact ih0 _ _ _ _
      | exact ih1 _ _ _ _ _ _ _ _ _
      | exact ih2 _ _ _
      | exact impl_pathOk.mono _ _
      | exact impl_upper.mono _ _
      | exact strings_LastIndexByte.mono _ _ _
      | exact LeO.none _
      | refine LeO.ite ?_ ?_
      | refine LeO.bind ?_ (fun _ => ?_)
    · intro y0 y1 y2
      unfold impl_TreeOk.l1
      repeat' first
      | (with_reducible exact ih0 _ _ _ _)
      | (with_reducible exact ih1 _ _ _ _ _ _ _ _ _)
      | (with_reducible exact ih2 _ _ _)
      | (with_reducible exact impl_pathOk.mono _ _)
      | (with_reducible exact impl_upper.mono _ _)
      | (with_reducible exact strings_LastIndexByte.mono _ _ _)
      | (with_reducible exact LeO.refl _)
      | (with_reducible exact LeO.none _)
      | (with_reducible refine LeO.ite ?_ ?_)
      | (with_reducible refine LeO.bind ?_ (fun _ => ?_))
      | exact ih0 _ _ _ _
      | exact ih1 _ _ _ _ _ _ _ _ _
      | exact ih2 _ _ _
      | exact impl_pathOk.mono _ _
      | exact impl_upper.mono _ _
      | exact strings_LastIndexByte.mono _ _ _
      | exact LeO.none _
      | refine LeO.ite ?_ ?_
      | refine LeO.bind ?_ (fun _ => ?_)
theorem impl_TreeOk.mono : ∀ a0 k, LeO (impl_TreeOk.f k a0) (impl_TreeOk.f (k + 1) a0) := by
  intro a0 k
  obtain ⟨ih0, ih1, ih2⟩ := impl_TreeOk.mono_l k
  unfold impl_TreeOk.f
  repeat' first
      | (with_reducible exact ih0 _ _ _ _)
      | (with_reducible exact ih1 _ _ _ _ _ _ _ _ _)
      | (with_reducible exact ih2 _ _ _)
      | (with_reducible exact impl_pathOk.mono _ _)
      | (with_reducible exact impl_upper.mono _ _)
      | (with_reducible exact strings_LastIndexByte.mono _ _ _)
      | (with_reducible exact LeO.refl _)
      | (with_reducible exact LeO.none _)
      | (with_reducible refine LeO.ite ?_ ?_)
      | (with_reducible refine LeO.bind ?_ (fun _ => ?_))
      | exact ih0 _ _ _ _
      | exact ih1 _ _ _ _ _ _ _ _ _
      | exact ih2 _ _ _
      | exact impl_pathOk.mono _ _
      | exact impl_upper.mono _ _
      | exact strings_LastIndexByte.mono _ _ _
      | exact LeO.none _
      | refine LeO.ite ?_ ?_
      | refine LeO.bind ?_ (fun _ => ?_)
def impl_TreeOk.T7 : Bool × List (List Nat × List Nat) := (true, [([], []), ([0], [0]), ([1], [1]), ([2], [2]), ([3, 2], [3]), ([4], [4]), ([5, 4], [4, 5]), ([6, 4, 4], [4, 6]), ([7], [7]), ([8, 7], [7, 8]), ([7], [7]), ([7], [7]), ([11, 7], [7, 11]), ([10, 12, 7], [7, 10, 12]), ([13, 7], [7, 13]), ([14, 7], [7, 14]), ([9, 15, 7], [7, 9, 15]), ([7, 16, 4], [4, 7, 16]), ([4, 17], [4, 17]), ([18, 7], [18]), ([19], [19]), ([20, 19], [19, 20]), ([21, 19, 19], [19, 21]), ([22], [22]), ([23, 22], [22, 23]), ([24, 22], [22, 24]), ([22, 25, 19], [19, 22, 25]), ([19, 26], [19, 26])])
def impl_TreeOk.B7 : List Nat := [0, 1, 3, 7, 15, 31, 63, 127, 255, 511, 255, 255, 2303, 7423, 15615, 31999, 65535, 131071, 262143, 524287, 1048575, 2097151, 4194303, 8388607, 16777215, 33554431, 67108863, 134217727]
theorem impl_TreeOk.tab7 : rtab .any (opsOf Tryd.f27 7) = impl_TreeOk.T7 := by kernel_rfl
theorem impl_TreeOk.bits7 : waitsOk impl_TreeOk.T7.2 impl_TreeOk.B7 = true := by kernel_rfl
set_option maxHeartbeats 40000000 in
set_option maxRecDepth 100000 in
theorem impl_TreeOk.calls (k : Nat) (A0 : Option Addr) (c0 : Nat) (l0 : List (S79)) (r : Bool) (w : World) (hr0 : Kd.C k79 w A0 l0.length l0) (hc0 : l0.length ≤ c0) (h : impl_TreeOk.f k l0 = some r) :
    Calls Tryd.prog 27 #[.slice A0 l0.length c0] w fun e w' => e = .returned (.bool r) ∧ Below w.heap.size w w' := by
  have hu79 := Tryd.underlying79
  have HR0 := Aside0.mk hr0
  have HC0 := Aside0.mk hc0
  clear hr0 hc0
  have HB := Aside0.mk (Below.refl w.heap.size w)
  have H : (if (l0.length : Int) > 500 then (some false) else (if (l0.all fun e => decide (e.f0.size ≤ 9223372036854775807)) = true then (impl_TreeOk.l0 k l0 l0 (l0.length : Int) 0) else none)) = some r := h
  clear h
  by_cases c2 : (l0.length : Int) > 500
  · rw [if_pos c2] at H
    have c2b0 : decide (500 < (l0.length : Int)) = true := decide_eq_true c2
    have c2b1 : decide (500 < l0.length) = true := decide_eq_true (by omega)
    clear c2
    obtain rfl := Option.some.inj H
    go_enter Tryd.func27, Tryd.ntmps27
    go_wp2
    go_ret
    exact ⟨by first | rfl | (simp [errW_none, errW_some] <;> rfl) | (simp [*, errW_none, errW_some] <;> rfl), by repeat (first | (with_reducible first | exact HB.out | apply below_alloc | apply pw_below_drewN | apply below_drew1) | exact HB.out)⟩
  · rw [if_neg c2] at H
    have c2b0 : decide (500 < (l0.length : Int)) = false := decide_eq_false c2
    have c2b1 : decide (500 < l0.length) = false := decide_eq_false (by omega)
    clear c2
    have h5 := Aside0.mk (show l0.length ≤ 500 by have := of_decide_eq_false c2b0; omega)
    have hmm := @run_makeMap Tryd.prog
    by_cases hall : (l0.all fun e => decide (e.f0.size ≤ 9223372036854775807)) = true
    rotate_left
    · rw [if_neg hall] at H
      exact absurd H (by simp)
    rw [if_pos hall] at H
    have hsz := Aside0.mk hall
    clear hall
    have H' := Aside0.mk H
    clear H
    go_enter Tryd.func27, Tryd.ntmps27
    go_wp2
    go_loopg [16] k (fun kq v16 w' => ∃ (x16_1 : Int) (wm : World), v16 = .int .i64 x16_1 ∧ Aside0 (impl_TreeOk.l0 kq l0 l0 (l0.length : Int) x16_1 = some r) ∧ Aside0 (kq ≤ k) ∧ Aside0 (TM w wm l0 x16_1) ∧ Aside0 (0 ≤ x16_1) ∧ Aside0 (Below wm.heap.size wm w'))
    case atStart => exact ⟨(0), _, (by first | rfl | (simp; done) | (simp [*]; done) | (simp; (generalize ByteArray.toList _ = q; cases q <;> rfl))), H', ⟨Nat.le_refl _⟩, ⟨TM_start w l0⟩, ⟨Int.le_refl _⟩, ⟨Below.refl _ _⟩⟩
    case round =>
      clear H'
      try clear c2
      try clear c2b0
      try clear c2b1
      try clear p2
      obtain ⟨x16_1, wm, rfl, HA, HK1, HM, HX, HB⟩ := hrel
      replace HR0 := Aside0.mk (Kd.C_below HR0.out HM.out.1)
      cases gk with
      | zero => exact absurd HA.out (by simp [impl_TreeOk.l0])
      | succ k1 =>
        have H := HA.out
        clear HA
        simp only [impl_TreeOk.l0] at H
        by_cases c3 : x16_1 < (l0.length : Int)
        · rw [if_pos c3] at H
          have c3b0 : decide (x16_1 < (l0.length : Int)) = true := decide_eq_true c3
          clear c3
          by_cases c4 : 0 ≤ x16_1
          · rw [if_pos c4] at H
            have c4b0 : decide (0 ≤ x16_1) = true := decide_eq_true c4
            clear c4
            by_cases c5 : x16_1 < (l0.length : Int)
            · rw [if_pos c5] at H
              have c5b0 : decide (x16_1 < (l0.length : Int)) = true := decide_eq_true c5
              clear c5
              have HC6 := Aside0.mk H
              clear H
              have p155 : 0 ≤ (x16_1 : Int) := of_decide_eq_true (by first | (with_reducible assumption) | assumption)
              have q155 : x16_1 < (l0.length : Int) := of_decide_eq_true (by first | (with_reducible assumption) | assumption)
              obtain ⟨ad155, e155, hx155_0, hx155_1, hx155_2, hx155_3⟩ := at_T79 HR0.out x16_1 p155 q155
              cases e155
              try (replace hx155_0 := (HB.out.cell (World.block_lt_of_cell? wm _ hx155_0)).trans hx155_0)
              try (replace hx155_1 := (HB.out.cell (World.block_lt_of_cell? wm _ hx155_1)).trans hx155_1)
              try (replace hx155_2 := (HB.out.cell (World.block_lt_of_cell? wm _ hx155_2)).trans hx155_2)
              try (replace hx155_3 := (HB.out.cell (World.block_lt_of_cell? wm _ hx155_3)).trans hx155_3)
              replace p155 := eq_true p155
              replace q155 := eq_true q155
              go_upto_region 7 with (first | ((with_reducible refine gate_dst (N := 5) rfl ?_); (try (refine gate_guard (by rfl) ?_; dsimp only)); refine box_event ?hg (N := 5) ?hd (cs := #[.string (⟨#[]⟩ : ByteArray), .int .i64 0, .string (⟨#[]⟩ : ByteArray), .bool false]) (t := 79) ?hr ?_; (case hd => rfl); (case hg => rfl); (case hr => first | (go_simp; done) | (go_simp; rfl)); intro gb156 hg w7 hbox hb; have n0_ := Aside0.mk (below_step (by repeat (first | (with_reducible first | exact HB.out | apply below_alloc | apply pw_below_drewN | apply below_drew1) | exact HB.out)) hb); have n1_ := Aside0.mk (hbox); have n2_ := Aside0.mk ((by rw [hg]; exact (below_size (by repeat (first | (with_reducible first | exact HB.out | apply below_alloc | apply pw_below_drewN | apply below_drew1) | exact HB.out))) : wm.heap.size ≤ gb156)); have n3_ := Aside0.mk ((by rw [hg]; exact (below_size (by repeat (first | (with_reducible first | exact HB.out | apply below_alloc | apply pw_below_drewN | apply below_drew1) | exact HB.out))) : wm.heap.size ≤ gb156)); clear HB; have HB := n0_; have BK156 := n1_; have GW156 := n2_; have GE156 := n3_; clear n0_ n1_ n2_ n3_; clear hb hbox hg; have hcz8_0 : w7.cell? ⟨gb156, 0, none⟩ = some (.string (⟨#[]⟩ : ByteArray)) := (blk_cell BK156.out 0).trans rfl; have hcz8_1 : w7.cell? ⟨gb156, 1, none⟩ = some (.int .i64 0) := (blk_cell BK156.out 1).trans rfl; have hcz8_2 : w7.cell? ⟨gb156, 2, none⟩ = some (.string (⟨#[]⟩ : ByteArray)) := (blk_cell BK156.out 2).trans rfl; have hcz8_3 : w7.cell? ⟨gb156, 3, none⟩ = some (.bool false) := (blk_cell BK156.out 3).trans rfl; have hfz8_0 := blk_frozen BK156.out 0; have hfz8_1 := blk_frozen BK156.out 1; have hfz8_2 := blk_frozen BK156.out 2; have hfz8_3 := blk_frozen BK156.out 3))
              (try simp only [Act.put, List.setIfInBounds_toArray, List.set_cons_zero, List.set_cons_succ])
              go_cut [48] (fun v48 wc => ∃ (kq : Nat) (x48_5 : Bool), v48 = .bool x48_5 ∧ Aside0 (impl_TreeOk.j1 kq l0 l0 (l0.length : Int) x16_1 x48_5 ((rd_T79 l0 x16_1).f0) ((rd_T79 l0 x16_1).f1) ((rd_T79 l0 x16_1).f2) ((rd_T79 l0 x16_1).f3) = some r) ∧ Aside0 (kq ≤ k1) ∧ Aside0 (wc.heap[gb156]? = some (.cells #[.string ((rd_T79 l0 x16_1).f0), .int .i64 ((rd_T79 l0 x16_1).f1), .string ((rd_T79 l0 x16_1).f2), .bool ((rd_T79 l0 x16_1).f3)] 79 (0, 0))) ∧ Aside0 (Below wm.heap.size wm wc))
              case first =>
                have H := HC6.out
                clear HC6
                replace H := Option.bind_eq_some_iff.mp H
                obtain ⟨t157, A90, H⟩ := H
                replace H : (if t157 = true then (if x16_1 > 0 then (if 0 ≤ (wrap64 (x16_1 - 1)) then (if (wrap64 (x16_1 - 1)) < (l0.length : Int) then (if ((Op.bytesLess (((rd_T79 l0 (wrap64 (x16_1 - 1))).f0).toList) (((rd_T79 l0 x16_1).f0).toList)) = true) then (if (rd_T79 l0 x16_1).f3 = true then (impl_TreeOk.j1 k1 l0 l0 (l0.length : Int) x16_1 (((rd_T79 l0 x16_1).f1) != 2) ((rd_T79 l0 x16_1).f0) ((rd_T79 l0 x16_1).f1) ((rd_T79 l0 x16_1).f2) ((rd_T79 l0 x16_1).f3)) else (impl_TreeOk.j1 k1 l0 l0 (l0.length : Int) x16_1 false ((rd_T79 l0 x16_1).f0) ((rd_T79 l0 x16_1).f1) ((rd_T79 l0 x16_1).f2) ((rd_T79 l0 x16_1).f3))) else (impl_TreeOk.j1 k1 l0 l0 (l0.length : Int) x16_1 true ((rd_T79 l0 x16_1).f0) ((rd_T79 l0 x16_1).f1) ((rd_T79 l0 x16_1).f2) ((rd_T79 l0 x16_1).f3))) else (none)) else (none)) else (if (rd_T79 l0 x16_1).f3 = true then (impl_TreeOk.j1 k1 l0 l0 (l0.length : Int) x16_1 (((rd_T79 l0 x16_1).f1) != 2) ((rd_T79 l0 x16_1).f0) ((rd_T79 l0 x16_1).f1) ((rd_T79 l0 x16_1).f2) ((rd_T79 l0 x16_1).f3)) else (impl_TreeOk.j1 k1 l0 l0 (l0.length : Int) x16_1 false ((rd_T79 l0 x16_1).f0) ((rd_T79 l0 x16_1).f1) ((rd_T79 l0 x16_1).f2) ((rd_T79 l0 x16_1).f3)))) else (impl_TreeOk.j1 k1 l0 l0 (l0.length : Int) x16_1 true ((rd_T79 l0 x16_1).f0) ((rd_T79 l0 x16_1).f1) ((rd_T79 l0 x16_1).f2) ((rd_T79 l0 x16_1).f3))) = some r := H
                have A9 := Aside0.mk A90
                clear A90
                by_cases c10 : t157 = true
                · subst c10
                  have H1 : (if x16_1 > 0 then (if 0 ≤ (wrap64 (x16_1 - 1)) then (if (wrap64 (x16_1 - 1)) < (l0.length : Int) then (if ((Op.bytesLess (((rd_T79 l0 (wrap64 (x16_1 - 1))).f0).toList) (((rd_T79 l0 x16_1).f0).toList)) = true) then (if (rd_T79 l0 x16_1).f3 = true then (impl_TreeOk.j1 k1 l0 l0 (l0.length : Int) x16_1 (((rd_T79 l0 x16_1).f1) != 2) ((rd_T79 l0 x16_1).f0) ((rd_T79 l0 x16_1).f1) ((rd_T79 l0 x16_1).f2) ((rd_T79 l0 x16_1).f3)) else (impl_TreeOk.j1 k1 l0 l0 (l0.length : Int) x16_1 false ((rd_T79 l0 x16_1).f0) ((rd_T79 l0 x16_1).f1) ((rd_T79 l0 x16_1).f2) ((rd_T79 l0 x16_1).f3))) else (impl_TreeOk.j1 k1 l0 l0 (l0.length : Int) x16_1 true ((rd_T79 l0 x16_1).f0) ((rd_T79 l0 x16_1).f1) ((rd_T79 l0 x16_1).f2) ((rd_T79 l0 x16_1).f3))) else (none)) else (none)) else (if (rd_T79 l0 x16_1).f3 = true then (impl_TreeOk.j1 k1 l0 l0 (l0.length : Int) x16_1 (((rd_T79 l0 x16_1).f1) != 2) ((rd_T79 l0 x16_1).f0) ((rd_T79 l0 x16_1).f1) ((rd_T79 l0 x16_1).f2) ((rd_T79 l0 x16_1).f3)) else (impl_TreeOk.j1 k1 l0 l0 (l0.length : Int) x16_1 false ((rd_T79 l0 x16_1).f0) ((rd_T79 l0 x16_1).f1) ((rd_T79 l0 x16_1).f2) ((rd_T79 l0 x16_1).f3)))) = some r := by rw [if_pos rfl] at H; exact H
                  clear H
                  have H := H1
                  clear H1
                  by_cases c11 : x16_1 > 0
                  · rw [if_pos c11] at H
                    have c11b0 : decide (0 < x16_1) = true := decide_eq_true c11
                    clear c11
                    (first | rw [c11b0] | (simp only [i64_w, i32_w]; rw [c11b0]) | skip)
                    obtain ⟨ji12, hji12⟩ : ∃ j_ : Int, (wrap64 (x16_1 - 1)) = j_ := ⟨_, rfl⟩
                    replace H : (if 0 ≤ (ji12) then (if (ji12) < (l0.length : Int) then (if ((Op.bytesLess (((rd_T79 l0 (ji12)).f0).toList) (((rd_T79 l0 x16_1).f0).toList)) = true) then (if (rd_T79 l0 x16_1).f3 = true then (impl_TreeOk.j1 k1 l0 l0 (l0.length : Int) x16_1 (((rd_T79 l0 x16_1).f1) != 2) ((rd_T79 l0 x16_1).f0) ((rd_T79 l0 x16_1).f1) ((rd_T79 l0 x16_1).f2) ((rd_T79 l0 x16_1).f3)) else (impl_TreeOk.j1 k1 l0 l0 (l0.length : Int) x16_1 false ((rd_T79 l0 x16_1).f0) ((rd_T79 l0 x16_1).f1) ((rd_T79 l0 x16_1).f2) ((rd_T79 l0 x16_1).f3))) else (impl_TreeOk.j1 k1 l0 l0 (l0.length : Int) x16_1 true ((rd_T79 l0 x16_1).f0) ((rd_T79 l0 x16_1).f1) ((rd_T79 l0 x16_1).f2) ((rd_T79 l0 x16_1).f3))) else (none)) else (none)) = some r := by first | (rw [hji12] at H; exact H) | (simp only [hji12] at H ⊢; exact H)
                    (try rw [hji12] at A9)
                    have hji12w : (IntKind.i64.wrap (x16_1 - 1)) = ji12 := (i64_w _).trans hji12
                    by_cases c13 : 0 ≤ (ji12)
                    · rw [if_pos c13] at H
                      have c13b0 : decide (0 ≤ (ji12)) = true := decide_eq_true c13
                      clear c13
                      by_cases c14 : (ji12) < (l0.length : Int)
                      · rw [if_pos c14] at H
                        have c14b0 : decide ((ji12) < (l0.length : Int)) = true := decide_eq_true c14
                        clear c14
                        by_cases c15 : ((Op.bytesLess (((rd_T79 l0 (ji12)).f0).toList) (((rd_T79 l0 x16_1).f0).toList)) = true)
                        · rw [if_pos c15] at H
                          have c15b0 : (Op.bytesLess (((rd_T79 l0 (ji12)).f0).toList) (((rd_T79 l0 x16_1).f0).toList)) = true := c15
                          have c15b0l1 := tleq_l1 c15b0
                          have c15b0l2 := tleq_l2 c15b0
                          clear c15
                          obtain ⟨bq16, hbq16⟩ : ∃ b_ : Bool, b_ = ((rd_T79 l0 x16_1).f3) := ⟨_, rfl⟩
                          replace H : (if bq16 = true then (impl_TreeOk.j1 k1 l0 l0 (l0.length : Int) x16_1 (((rd_T79 l0 x16_1).f1) != 2) ((rd_T79 l0 x16_1).f0) ((rd_T79 l0 x16_1).f1) ((rd_T79 l0 x16_1).f2) bq16) else (impl_TreeOk.j1 k1 l0 l0 (l0.length : Int) x16_1 false ((rd_T79 l0 x16_1).f0) ((rd_T79 l0 x16_1).f1) ((rd_T79 l0 x16_1).f2) bq16)) = some r := by rw [← hbq16] at H; exact H
                          have Nbq16 := Aside0.mk hbq16
                          clear hbq16
                          by_cases c17 : bq16 = true
                          · subst c17
                            have H1 : (impl_TreeOk.j1 k1 l0 l0 (l0.length : Int) x16_1 (((rd_T79 l0 x16_1).f1) != 2) ((rd_T79 l0 x16_1).f0) ((rd_T79 l0 x16_1).f1) ((rd_T79 l0 x16_1).f2) true) = some r := by rw [if_pos rfl] at H; exact H
                            clear H
                            have H := H1
                            clear H1
                            have H' := Aside0.mk H
                            clear H
                            (try rw [← Nbq16.out])
                            try go_wp2
                            have n0_ : Aside0 (((((w7.setCell ⟨gb156, 0, none⟩ (.string ((rd_T79 l0 x16_1).f0))).setCell ⟨gb156, 1, none⟩ (.int .i64 ((rd_T79 l0 x16_1).f1))).setCell ⟨gb156, 2, none⟩ (.string ((rd_T79 l0 x16_1).f2))).setCell ⟨gb156, 3, none⟩ (.bool (true))).heap[gb156]? = some (.cells #[.string ((rd_T79 l0 x16_1).f0), .int .i64 ((rd_T79 l0 x16_1).f1), .string ((rd_T79 l0 x16_1).f2), .bool true] 79 (0, 0))) := ⟨by (with_reducible repeat (first | refine blk_drewN ?_ _ | refine blk_drew ?_ | refine blk_alloc ?_ _)); refine blk_put (cs := #[.string ((rd_T79 l0 x16_1).f0), .int .i64 ((rd_T79 l0 x16_1).f1), .string ((rd_T79 l0 x16_1).f2), .bool false]) ?_ 3 _ rfl; (with_reducible repeat (first | refine blk_drewN ?_ _ | refine blk_drew ?_ | refine blk_alloc ?_ _)); refine blk_put (cs := #[.string ((rd_T79 l0 x16_1).f0), .int .i64 ((rd_T79 l0 x16_1).f1), .string (⟨#[]⟩ : ByteArray), .bool false]) ?_ 2 _ rfl; (with_reducible repeat (first | refine blk_drewN ?_ _ | refine blk_drew ?_ | refine blk_alloc ?_ _)); refine blk_put (cs := #[.string ((rd_T79 l0 x16_1).f0), .int .i64 0, .string (⟨#[]⟩ : ByteArray), .bool false]) ?_ 1 _ rfl; (with_reducible repeat (first | refine blk_drewN ?_ _ | refine blk_drew ?_ | refine blk_alloc ?_ _)); refine blk_put (cs := #[.string (⟨#[]⟩ : ByteArray), .int .i64 0, .string (⟨#[]⟩ : ByteArray), .bool false]) ?_ 0 _ rfl; (with_reducible repeat (first | refine blk_drewN ?_ _ | refine blk_drew ?_ | refine blk_alloc ?_ _)); exact BK156.out⟩
                            have n1_ : Aside0 (Below wm.heap.size wm ((((w7.setCell ⟨gb156, 0, none⟩ (.string ((rd_T79 l0 x16_1).f0))).setCell ⟨gb156, 1, none⟩ (.int .i64 ((rd_T79 l0 x16_1).f1))).setCell ⟨gb156, 2, none⟩ (.string ((rd_T79 l0 x16_1).f2))).setCell ⟨gb156, 3, none⟩ (.bool (true)))) := ⟨by repeat (first | (with_reducible first | exact HB.out | apply below_alloc | apply pw_below_drewN | apply below_drew1 | refine below_set ?_ GE156.out) | exact HB.out)⟩
                            (try clear BK156)
                            (try clear HB)
                            generalize ((((w7.setCell ⟨gb156, 0, none⟩ (.string ((rd_T79 l0 x16_1).f0))).setCell ⟨gb156, 1, none⟩ (.int .i64 ((rd_T79 l0 x16_1).f1))).setCell ⟨gb156, 2, none⟩ (.string ((rd_T79 l0 x16_1).f2))).setCell ⟨gb156, 3, none⟩ (.bool (true))) = w18 at n0_ n1_ ⊢
                            have BK156 := n0_
                            have HB := n1_
                            clear n0_ n1_
                            have n0_ := Aside0.mk (blk_drew BK156.out)
                            have n1_ := Aside0.mk (below_drew1 HB.out)
                            clear BK156
                            clear HB
                            have BK156 := n0_
                            have HB := n1_
                            clear n0_ n1_
                            have p158 : 0 ≤ ((ji12) : Int) := of_decide_eq_true (by first | (with_reducible assumption) | assumption)
                            have q158 : (ji12) < (l0.length : Int) := of_decide_eq_true (by first | (with_reducible assumption) | assumption)
                            obtain ⟨ad158, e158, hx158_0, hx158_1, hx158_2, hx158_3⟩ := at_T79 HR0.out (ji12) p158 q158
                            have hw158_3 := hx158_3
                            have hw158_2 := hx158_2
                            have hw158_1 := hx158_1
                            have hw158_0 := hx158_0
                            (try rw [← Nbq16.out] at hx158_3)
                            obtain rfl : ad155 = ad158 := (by injection e158)
                            try (replace hx158_0 := (HB.out.cell (World.block_lt_of_cell? wm _ hx158_0)).trans hx158_0)
                            try (replace hx158_1 := (HB.out.cell (World.block_lt_of_cell? wm _ hx158_1)).trans hx158_1)
                            try (replace hx158_2 := (HB.out.cell (World.block_lt_of_cell? wm _ hx158_2)).trans hx158_2)
                            try (replace hx158_3 := (HB.out.cell (World.block_lt_of_cell? wm _ hx158_3)).trans hx158_3)
                            replace p158 := eq_true p158
                            replace q158 := eq_true q158
                            refine start_ (n := 28) (S := fun w' => w'.cell? ⟨gb156, 0, none⟩ = some (.string ((rd_T79 l0 x16_1).f0)) ∧ w'.cell? ⟨gb156, 1, none⟩ = some (.int .i64 ((rd_T79 l0 x16_1).f1)) ∧ w'.cell? ⟨gb156, 2, none⟩ = some (.string ((rd_T79 l0 x16_1).f2)) ∧ w'.cell? ⟨gb156, 3, none⟩ = some (.bool true) ∧ w'.cell? (ad155.add (((ji12)).toNat * 4)) = some (.string ((rd_T79 l0 (ji12)).f0)) ∧ w'.cell? ⟨(ad155.add (((ji12)).toNat * 4)).block, (ad155.add (((ji12)).toNat * 4)).off + 1, none⟩ = some (.int .i64 ((rd_T79 l0 (ji12)).f1)) ∧ w'.cell? ⟨(ad155.add (((ji12)).toNat * 4)).block, (ad155.add (((ji12)).toNat * 4)).off + 2, none⟩ = some (.string ((rd_T79 l0 (ji12)).f2)) ∧ w'.cell? ⟨(ad155.add (((ji12)).toNat * 4)).block, (ad155.add (((ji12)).toNat * 4)).off + 3, none⟩ = some (.bool ((rd_T79 l0 (ji12)).f3))) (ds := []) #[false, false, false, false, false, false, false, false, false, false, false, false, false, false, false, false, false, false, false, false, false, false, false, false, false, false, false, false] (by kernel_rfl) rfl rfl ⟨(blk_cell BK156.out 0).trans rfl, (blk_cell BK156.out 1).trans rfl, (blk_cell BK156.out 2).trans rfl, (blk_cell BK156.out 3).trans rfl, ((HB.out.cell (World.block_lt_of_cell? wm _ hw158_0)).trans hw158_0), ((HB.out.cell (World.block_lt_of_cell? wm _ hw158_1)).trans hw158_1), ((HB.out.cell (World.block_lt_of_cell? wm _ hw158_2)).trans hw158_2), ((HB.out.cell (World.block_lt_of_cell? wm _ hw158_3)).trans hw158_3)⟩ (fun hHeld => ?_); refine with_tabW impl_TreeOk.tab7 impl_TreeOk.bits7 (fun HT_ HW_ => ?_)
                            generalize w18.drew = w19 at BK156 HB hx158_0 hx158_1 hx158_2 hx158_3 hHeld ⊢
                            refine pure_ (i := 0) (N := some 21) (v := ?_) (a' := ?_) #[true, false, false, false, false, false, false, false, false, false, false, false, false, false, false, false, false, false, false, false, false, false, false, false, false, false, false, false] rfl rfl (any_of HT_.out (by kernel_rfl)) (fun _ _ _ h => h) (Or.inl ⟨by rfl, ?_⟩) ?_ ?_
                            rotate_left
                            · intro w'
                              go_simp
                              with_reducible rfl
                            rotate_left
                            · simp only [Act.put, List.setIfInBounds_toArray, List.set_cons_zero, List.set_cons_succ, i64_w, i32_w]
                              rfl
                            refine take_ (i := 1) (N := some 22) (v := ?_) (a' := ?_) #[true, true, false, false, false, false, false, false, false, false, false, false, false, false, false, false, false, false, false, false, false, false, false, false, false, false, false, false] rfl rfl (take_ofW HT_.out HW_.out (by kernel_rfl)) (fun _ _ _ h => h) (Or.inl ⟨by rfl, ?_⟩) hHeld ?_ ?_
                            rotate_left
                            · rintro w' ⟨s0, s1, s2, s3, s4, s5, s6, s7⟩
                              go_simp
                              with_reducible rfl
                            rotate_left
                            · simp only [Act.put, List.setIfInBounds_toArray, List.set_cons_zero, List.set_cons_succ, i64_w, i32_w]
                              rfl
                            refine one_ (i := 2) (N := some 23) #[true, true, true, false, false, false, false, false, false, false, false, false, false, false, false, false, false, false, false, false, false, false, false, false, false, false, false, false] rfl rfl (one_of HT_.out (by kernel_rfl)) (by decide) (fun K hK => ?_)
                            refine goes_ Tryd.func63 (by kernel_rfl) rfl #[.string ((rd_T79 l0 x16_1).f0)] (by rfl) rfl rfl (by (try simp only [List.map_toArray, List.map_cons, List.map_nil]); first | done | rfl | (simp only [List.length_drop, List.length_take]; rfl)) ?_
                            with_reducible refine (impl_pathOk.calls k1 ((rd_T79 l0 x16_1).f0) true _ A9.out).mono ?_
                            rintro e w20 ⟨rfl, hb⟩
                            refine ⟨_, rfl, ?_⟩
                            have n0_ := Aside0.mk (blk_below (g := gb156) (o := .cells #[.string ((rd_T79 l0 x16_1).f0), .int .i64 ((rd_T79 l0 x16_1).f1), .string ((rd_T79 l0 x16_1).f2), .bool true] 79 (0, 0)) (by (with_reducible repeat (first | refine blk_drewN ?_ _ | refine blk_drew ?_ | refine blk_alloc ?_ _)); exact BK156.out) hb)
                            have n1_ := Aside0.mk (below_step (by repeat (first | (with_reducible first | exact HB.out | apply below_alloc | apply pw_below_drewN | apply below_drew1 | refine below_set ?_ GE156.out) | exact HB.out)) hb)
                            clear BK156
                            clear HB
                            have BK156 := n0_
                            have HB := n1_
                            clear n0_ n1_
                            (try clear hb)
                            (try clear hb2)
                            (try clear hk)
                            (try clear hi)
                            refine hK.out _ _ ⟨(blk_cell BK156.out 0).trans rfl, (blk_cell BK156.out 1).trans rfl, (blk_cell BK156.out 2).trans rfl, (blk_cell BK156.out 3).trans rfl, ((HB.out.cell (World.block_lt_of_cell? wm _ hw158_0)).trans hw158_0), ((HB.out.cell (World.block_lt_of_cell? wm _ hw158_1)).trans hw158_1), ((HB.out.cell (World.block_lt_of_cell? wm _ hw158_2)).trans hw158_2), ((HB.out.cell (World.block_lt_of_cell? wm _ hw158_3)).trans hw158_3)⟩ (fun hHeld => ?_)
                            clear hK K
                            refine norm_ (a' := ?_) ?_ ?_
                            rotate_left
                            · show Act.put _ (some 23) _ = _
                              simp only [Act.put, List.setIfInBounds_toArray, List.set_cons_zero, List.set_cons_succ, i64_w, i32_w]
                              rfl
                            refine pure_ (i := 3) (N := some 24) (v := ?_) (a' := ?_) #[true, true, true, true, false, false, false, false, false, false, false, false, false, false, false, false, false, false, false, false, false, false, false, false, false, false, false, false] rfl rfl (any_of HT_.out (by kernel_rfl)) (fun _ _ _ h => h) (Or.inl ⟨by rfl, ?_⟩) ?_ ?_
                            rotate_left
                            · intro w'
                              go_simp
                              with_reducible rfl
                            rotate_left
                            · simp only [Act.put, List.setIfInBounds_toArray, List.set_cons_zero, List.set_cons_succ, i64_w, i32_w]
                              rfl
                            refine pure_ (i := 4) (N := some 25) (v := ?_) (a' := ?_) #[true, true, true, true, true, false, false, false, false, false, false, false, false, false, false, false, false, false, false, false, false, false, false, false, false, false, false, false] rfl rfl (any_of HT_.out (by kernel_rfl)) (fun _ _ _ h => h) (Or.inl ⟨by rfl, ?_⟩) ?_ ?_
                            rotate_left
                            · intro w'
                              go_simp
                              with_reducible rfl
                            rotate_left
                            · simp only [Act.put, List.setIfInBounds_toArray, List.set_cons_zero, List.set_cons_succ, i64_w, i32_w]
                              rfl
                            refine pure_ (i := 5) (N := some 26) (v := ?_) (a' := ?_) #[true, true, true, true, true, true, false, false, false, false, false, false, false, false, false, false, false, false, false, false, false, false, false, false, false, false, false, false] rfl rfl (any_of HT_.out (by kernel_rfl)) (fun _ _ _ h => h) (Or.inl ⟨by rfl, ?_⟩) ?_ ?_
                            rotate_left
                            · intro w'
                              go_simp
                              with_reducible rfl
                            rotate_left
                            · simp only [Act.put, List.setIfInBounds_toArray, List.set_cons_zero, List.set_cons_succ, i64_w, i32_w]
                              rfl
                            refine pure_ (i := 6) (N := some 27) (v := ?_) (a' := ?_) #[true, true, true, true, true, true, true, false, false, false, false, false, false, false, false, false, false, false, false, false, false, false, false, false, false, false, false, false] rfl rfl (any_of HT_.out (by kernel_rfl)) (fun _ _ _ h => h) (Or.inl ⟨by rfl, ?_⟩) ?_ ?_
                            rotate_left
                            · intro w'
                              go_simp
                              with_reducible rfl
                            rotate_left
                            · simp only [Act.put, List.setIfInBounds_toArray, List.set_cons_zero, List.set_cons_succ, i64_w, i32_w]
                              rfl
                            refine pure_ (i := 7) (N := some 28) (v := ?_) (a' := ?_) #[true, true, true, true, true, true, true, true, false, false, false, false, false, false, false, false, false, false, false, false, false, false, false, false, false, false, false, false] rfl rfl (any_of HT_.out (by kernel_rfl)) (fun _ _ _ h => h) (Or.inl ⟨by rfl, ?_⟩) ?_ ?_
                            rotate_left
                            · intro w'
                              go_simp
                              with_reducible rfl
                            rotate_left
                            · simp only [Act.put, List.setIfInBounds_toArray, List.set_cons_zero, List.set_cons_succ, i64_w, i32_w]
                              rfl
                            refine pure_ (i := 8) (N := some 29) (v := ?_) (a' := ?_) #[true, true, true, true, true, true, true, true, true, false, false, false, false, false, false, false, false, false, false, false, false, false, false, false, false, false, false, false] rfl rfl (any_of HT_.out (by kernel_rfl)) (fun _ _ _ h => h) (Or.inl ⟨by rfl, ?_⟩) ?_ ?_
                            rotate_left
                            · intro w'
                              go_simp
                              with_reducible rfl
                            rotate_left
                            · simp only [Act.put, List.setIfInBounds_toArray, List.set_cons_zero, List.set_cons_succ, i64_w, i32_w]
                              rfl
                            refine pure_ (i := 10) (N := some 31) (v := ?_) (a' := ?_) #[true, true, true, true, true, true, true, true, true, false, true, false, false, false, false, false, false, false, false, false, false, false, false, false, false, false, false, false] rfl rfl (any_of HT_.out (by kernel_rfl)) (fun _ _ _ h => h) (Or.inl ⟨by rfl, ?_⟩) ?_ ?_
                            rotate_left
                            · intro w'
                              go_simp
                              with_reducible rfl
                            rotate_left
                            · simp only [Act.put, List.setIfInBounds_toArray, List.set_cons_zero, List.set_cons_succ, i64_w, i32_w]
                              rfl
                            refine pure_ (i := 11) (N := some 32) (v := ?_) (a' := ?_) #[true, true, true, true, true, true, true, true, true, false, true, true, false, false, false, false, false, false, false, false, false, false, false, false, false, false, false, false] rfl rfl (any_of HT_.out (by kernel_rfl)) (fun _ _ _ h => h) (Or.inl ⟨by rfl, ?_⟩) ?_ ?_
                            rotate_left
                            · intro w'
                              go_simp
                              with_reducible rfl
                            rotate_left
                            · simp only [Act.put, List.setIfInBounds_toArray, List.set_cons_zero, List.set_cons_succ, i64_w, i32_w]
                              rfl
                            refine pure_ (i := 12) (N := some 33) (v := ?_) (a' := ?_) #[true, true, true, true, true, true, true, true, true, false, true, true, true, false, false, false, false, false, false, false, false, false, false, false, false, false, false, false] rfl rfl (any_of HT_.out (by kernel_rfl)) (fun _ _ _ h => h) (Or.inl ⟨by rfl, ?_⟩) ?_ ?_
                            rotate_left
                            · intro w'
                              go_simp
                              with_reducible rfl
                            rotate_left
                            · simp only [Act.put, List.setIfInBounds_toArray, List.set_cons_zero, List.set_cons_succ, i64_w, i32_w]
                              rfl
                            refine pure_ (i := 13) (N := some 34) (v := ?_) (a' := ?_) #[true, true, true, true, true, true, true, true, true, false, true, true, true, true, false, false, false, false, false, false, false, false, false, false, false, false, false, false] rfl rfl (any_of HT_.out (by kernel_rfl)) (fun _ _ _ h => h) (Or.inl ⟨by rfl, ?_⟩) ?_ ?_
                            rotate_left
                            · intro w'
                              go_simp
                              with_reducible rfl
                            rotate_left
                            · simp only [Act.put, List.setIfInBounds_toArray, List.set_cons_zero, List.set_cons_succ, i64_w, i32_w]
                              rfl
                            refine pure_ (i := 14) (N := some 35) (v := ?_) (a' := ?_) #[true, true, true, true, true, true, true, true, true, false, true, true, true, true, true, false, false, false, false, false, false, false, false, false, false, false, false, false] rfl rfl (any_of HT_.out (by kernel_rfl)) (fun _ _ _ h => h) (Or.inl ⟨by rfl, ?_⟩) ?_ ?_
                            rotate_left
                            · intro w'
                              go_simp
                              with_reducible rfl
                            rotate_left
                            · simp only [Act.put, List.setIfInBounds_toArray, List.set_cons_zero, List.set_cons_succ, i64_w, i32_w]
                              rfl
                            refine take_ (i := 9) (N := some 30) (v := ?_) (a' := ?_) #[true, true, true, true, true, true, true, true, true, true, true, true, true, true, true, false, false, false, false, false, false, false, false, false, false, false, false, false] rfl rfl (take_ofW HT_.out HW_.out (by kernel_rfl)) (fun _ _ _ h => h) (Or.inl ⟨by rfl, ?_⟩) hHeld ?_ ?_
                            rotate_left
                            · rintro w' ⟨s0, s1, s2, s3, s4, s5, s6, s7⟩
                              go_simp
                              with_reducible rfl
                            rotate_left
                            · simp only [Act.put, List.setIfInBounds_toArray, List.set_cons_zero, List.set_cons_succ, i64_w, i32_w]
                              rfl
                            refine take_ (i := 15) (N := some 36) (v := ?_) (a' := ?_) #[true, true, true, true, true, true, true, true, true, true, true, true, true, true, true, true, false, false, false, false, false, false, false, false, false, false, false, false] rfl rfl (take_ofW HT_.out HW_.out (by kernel_rfl)) (fun _ _ _ h => h) (Or.inl ⟨by rfl, ?_⟩) hHeld ?_ ?_
                            rotate_left
                            · rintro w' ⟨s0, s1, s2, s3, s4, s5, s6, s7⟩
                              go_simp
                              with_reducible rfl
                            rotate_left
                            · simp only [Act.put, List.setIfInBounds_toArray, List.set_cons_zero, List.set_cons_succ, i64_w, i32_w]
                              rfl
                            refine pure_ (i := 16) (N := some 37) (v := ?_) (a' := ?_) #[true, true, true, true, true, true, true, true, true, true, true, true, true, true, true, true, true, false, false, false, false, false, false, false, false, false, false, false] rfl rfl (any_of HT_.out (by kernel_rfl)) (fun _ _ _ h => h) (Or.inl ⟨by rfl, ?_⟩) ?_ ?_
                            rotate_left
                            · intro w'
                              go_simp
                              with_reducible rfl
                            rotate_left
                            · simp only [Act.put, List.setIfInBounds_toArray, List.set_cons_zero, List.set_cons_succ, i64_w, i32_w]
                              rfl
                            refine pure_ (i := 17) (N := some 38) (v := ?_) (a' := ?_) #[true, true, true, true, true, true, true, true, true, true, true, true, true, true, true, true, true, true, false, false, false, false, false, false, false, false, false, false] rfl rfl (any_of HT_.out (by kernel_rfl)) (fun _ _ _ h => h) (Or.inl ⟨by rfl, ?_⟩) ?_ ?_
                            rotate_left
                            · intro w'
                              go_simp
                              with_reducible rfl
                            rotate_left
                            · simp only [Act.put, List.setIfInBounds_toArray, List.set_cons_zero, List.set_cons_succ, i64_w, i32_w]
                              rfl
                            refine pure_ (i := 18) (N := some 39) (v := ?_) (a' := ?_) #[true, true, true, true, true, true, true, true, true, true, true, true, true, true, true, true, true, true, true, false, false, false, false, false, false, false, false, false] rfl rfl (any_of HT_.out (by kernel_rfl)) (fun _ _ _ h => h) (Or.inl ⟨by rfl, ?_⟩) ?_ ?_
                            rotate_left
                            · intro w'
                              go_simp
                              with_reducible rfl
                            rotate_left
                            · simp only [Act.put, List.setIfInBounds_toArray, List.set_cons_zero, List.set_cons_succ, i64_w, i32_w]
                              rfl
                            refine pure_ (i := 19) (N := some 40) (v := ?_) (a' := ?_) #[true, true, true, true, true, true, true, true, true, true, true, true, true, true, true, true, true, true, true, true, false, false, false, false, false, false, false, false] rfl rfl (any_of HT_.out (by kernel_rfl)) (fun _ _ _ h => h) (Or.inl ⟨by rfl, ?_⟩) ?_ ?_
                            rotate_left
                            · intro w'
                              go_simp
                              with_reducible rfl
                            rotate_left
                            · simp only [Act.put, List.setIfInBounds_toArray, List.set_cons_zero, List.set_cons_succ, i64_w, i32_w]
                              rfl
                            refine pure_ (i := 20) (N := some 41) (v := ?_) (a' := ?_) #[true, true, true, true, true, true, true, true, true, true, true, true, true, true, true, true, true, true, true, true, true, false, false, false, false, false, false, false] rfl rfl (any_of HT_.out (by kernel_rfl)) (fun _ _ _ h => h) (Or.inl ⟨by rfl, ?_⟩) ?_ ?_
                            rotate_left
                            · intro w'
                              go_simp
                              with_reducible rfl
                            rotate_left
                            · simp only [Act.put, List.setIfInBounds_toArray, List.set_cons_zero, List.set_cons_succ, i64_w, i32_w]
                              rfl
                            refine take_ (i := 21) (N := some 42) (v := ?_) (a' := ?_) #[true, true, true, true, true, true, true, true, true, true, true, true, true, true, true, true, true, true, true, true, true, true, false, false, false, false, false, false] rfl rfl (take_ofW HT_.out HW_.out (by kernel_rfl)) (fun _ _ _ h => h) (Or.inl ⟨by rfl, ?_⟩) hHeld ?_ ?_
                            rotate_left
                            · rintro w' ⟨s0, s1, s2, s3, s4, s5, s6, s7⟩
                              go_simp
                              with_reducible rfl
                            rotate_left
                            · simp only [Act.put, List.setIfInBounds_toArray, List.set_cons_zero, List.set_cons_succ, i64_w, i32_w]
                              rfl
                            refine pure_ (i := 22) (N := some 43) (v := ?_) (a' := ?_) #[true, true, true, true, true, true, true, true, true, true, true, true, true, true, true, true, true, true, true, true, true, true, true, false, false, false, false, false] rfl rfl (any_of HT_.out (by kernel_rfl)) (fun _ _ _ h => h) (Or.inl ⟨by rfl, ?_⟩) ?_ ?_
                            rotate_left
                            · intro w'
                              go_simp
                              with_reducible rfl
                            rotate_left
                            · simp only [Act.put, List.setIfInBounds_toArray, List.set_cons_zero, List.set_cons_succ, i64_w, i32_w]
                              rfl
                            refine pure_ (i := 23) (N := some 44) (v := ?_) (a' := ?_) #[true, true, true, true, true, true, true, true, true, true, true, true, true, true, true, true, true, true, true, true, true, true, true, true, false, false, false, false] rfl rfl (any_of HT_.out (by kernel_rfl)) (fun _ _ _ h => h) (Or.inl ⟨by rfl, ?_⟩) ?_ ?_
                            rotate_left
                            · intro w'
                              go_simp
                              with_reducible rfl
                            rotate_left
                            · simp only [Act.put, List.setIfInBounds_toArray, List.set_cons_zero, List.set_cons_succ, i64_w, i32_w]
                              rfl
                            refine take_ (i := 24) (N := some 45) (v := ?_) (a' := ?_) #[true, true, true, true, true, true, true, true, true, true, true, true, true, true, true, true, true, true, true, true, true, true, true, true, true, false, false, false] rfl rfl (take_ofW HT_.out HW_.out (by kernel_rfl)) (fun _ _ _ h => h) (Or.inl ⟨by rfl, ?_⟩) hHeld ?_ ?_
                            rotate_left
                            · rintro w' ⟨s0, s1, s2, s3, s4, s5, s6, s7⟩
                              go_simp
                              with_reducible rfl
                            rotate_left
                            · simp only [Act.put, List.setIfInBounds_toArray, List.set_cons_zero, List.set_cons_succ, i64_w, i32_w]
                              rfl
                            refine pure_ (i := 25) (N := some 46) (v := ?_) (a' := ?_) #[true, true, true, true, true, true, true, true, true, true, true, true, true, true, true, true, true, true, true, true, true, true, true, true, true, true, false, false] rfl rfl (any_of HT_.out (by kernel_rfl)) (fun _ _ _ h => h) (Or.inl ⟨by rfl, ?_⟩) ?_ ?_
                            rotate_left
                            · intro w'
                              go_simp
                              with_reducible rfl
                            rotate_left
                            · simp only [Act.put, List.setIfInBounds_toArray, List.set_cons_zero, List.set_cons_succ, i64_w, i32_w]
                              rfl
                            refine pure_ (i := 26) (N := some 47) (v := ?_) (a' := ?_) #[true, true, true, true, true, true, true, true, true, true, true, true, true, true, true, true, true, true, true, true, true, true, true, true, true, true, true, false] rfl rfl (any_of HT_.out (by kernel_rfl)) (fun _ _ _ h => h) (Or.inl ⟨by rfl, ?_⟩) ?_ ?_
                            rotate_left
                            · intro w'
                              go_simp
                              with_reducible rfl
                            rotate_left
                            · simp only [Act.put, List.setIfInBounds_toArray, List.set_cons_zero, List.set_cons_succ, i64_w, i32_w]
                              rfl
                            refine pure_ (i := 27) (N := some 48) (v := ?_) (a' := ?_) #[true, true, true, true, true, true, true, true, true, true, true, true, true, true, true, true, true, true, true, true, true, true, true, true, true, true, true, true] rfl rfl (any_of HT_.out (by kernel_rfl)) (fun _ _ _ h => h) (Or.inl ⟨by rfl, ?_⟩) ?_ ?_
                            rotate_left
                            · intro w'
                              go_simp
                              with_reducible rfl
                            rotate_left
                            · simp only [Act.put, List.setIfInBounds_toArray, List.set_cons_zero, List.set_cons_succ, i64_w, i32_w]
                              rfl
                            refine done_ (done_of HT_.out (by kernel_rfl)) ?_
                            try go_wp2
                            go_meet
                            case rel => exact ⟨_, ((((rd_T79 l0 x16_1).f1) != 2)), (by first | rfl | (simp; done) | (simp [*]; done) | (simp; (generalize ByteArray.toList _ = q; cases q <;> rfl))), (by (try rw [← Nbq16.out]); exact H'), ⟨by have := HK1.out; first | omega | exact Nat.le_refl _⟩, ⟨by (try rw [← Nbq16.out]); (with_reducible repeat (first | refine blk_drewN ?_ _ | refine blk_drew ?_ | refine blk_alloc ?_ _)); exact BK156.out⟩, ⟨by repeat (first | (with_reducible first | exact HB.out | apply below_alloc | apply pw_below_drewN | apply below_drew1 | refine below_set ?_ GE156.out) | exact HB.out)⟩⟩
                          · replace c17 := Bool.eq_false_iff.mpr c17
                            subst c17
                            have H1 : (impl_TreeOk.j1 k1 l0 l0 (l0.length : Int) x16_1 false ((rd_T79 l0 x16_1).f0) ((rd_T79 l0 x16_1).f1) ((rd_T79 l0 x16_1).f2) false) = some r := by rw [if_neg (show ¬ (false = true) by decide)] at H; exact H
                            clear H
                            have H := H1
                            clear H1
                            have H' := Aside0.mk H
                            clear H
                            (try rw [← Nbq16.out])
                            try go_wp2
                            have n0_ : Aside0 (((((w7.setCell ⟨gb156, 0, none⟩ (.string ((rd_T79 l0 x16_1).f0))).setCell ⟨gb156, 1, none⟩ (.int .i64 ((rd_T79 l0 x16_1).f1))).setCell ⟨gb156, 2, none⟩ (.string ((rd_T79 l0 x16_1).f2))).setCell ⟨gb156, 3, none⟩ (.bool (false))).heap[gb156]? = some (.cells #[.string ((rd_T79 l0 x16_1).f0), .int .i64 ((rd_T79 l0 x16_1).f1), .string ((rd_T79 l0 x16_1).f2), .bool false] 79 (0, 0))) := ⟨by (with_reducible repeat (first | refine blk_drewN ?_ _ | refine blk_drew ?_ | refine blk_alloc ?_ _)); refine blk_put (cs := #[.string ((rd_T79 l0 x16_1).f0), .int .i64 ((rd_T79 l0 x16_1).f1), .string ((rd_T79 l0 x16_1).f2), .bool false]) ?_ 3 _ rfl; (with_reducible repeat (first | refine blk_drewN ?_ _ | refine blk_drew ?_ | refine blk_alloc ?_ _)); refine blk_put (cs := #[.string ((rd_T79 l0 x16_1).f0), .int .i64 ((rd_T79 l0 x16_1).f1), .string (⟨#[]⟩ : ByteArray), .bool false]) ?_ 2 _ rfl; (with_reducible repeat (first | refine blk_drewN ?_ _ | refine blk_drew ?_ | refine blk_alloc ?_ _)); refine blk_put (cs := #[.string ((rd_T79 l0 x16_1).f0), .int .i64 0, .string (⟨#[]⟩ : ByteArray), .bool false]) ?_ 1 _ rfl; (with_reducible repeat (first | refine blk_drewN ?_ _ | refine blk_drew ?_ | refine blk_alloc ?_ _)); refine blk_put (cs := #[.string (⟨#[]⟩ : ByteArray), .int .i64 0, .string (⟨#[]⟩ : ByteArray), .bool false]) ?_ 0 _ rfl; (with_reducible repeat (first | refine blk_drewN ?_ _ | refine blk_drew ?_ | refine blk_alloc ?_ _)); exact BK156.out⟩
                            have n1_ : Aside0 (Below wm.heap.size wm ((((w7.setCell ⟨gb156, 0, none⟩ (.string ((rd_T79 l0 x16_1).f0))).setCell ⟨gb156, 1, none⟩ (.int .i64 ((rd_T79 l0 x16_1).f1))).setCell ⟨gb156, 2, none⟩ (.string ((rd_T79 l0 x16_1).f2))).setCell ⟨gb156, 3, none⟩ (.bool (false)))) := ⟨by repeat (first | (with_reducible first | exact HB.out | apply below_alloc | apply pw_below_drewN | apply below_drew1 | refine below_set ?_ GE156.out) | exact HB.out)⟩
                            (try clear BK156)
                            (try clear HB)
                            generalize ((((w7.setCell ⟨gb156, 0, none⟩ (.string ((rd_T79 l0 x16_1).f0))).setCell ⟨gb156, 1, none⟩ (.int .i64 ((rd_T79 l0 x16_1).f1))).setCell ⟨gb156, 2, none⟩ (.string ((rd_T79 l0 x16_1).f2))).setCell ⟨gb156, 3, none⟩ (.bool (false))) = w21 at n0_ n1_ ⊢
                            have BK156 := n0_
                            have HB := n1_
                            clear n0_ n1_
                            have n0_ := Aside0.mk (blk_drew BK156.out)
                            have n1_ := Aside0.mk (below_drew1 HB.out)
                            clear BK156
                            clear HB
                            have BK156 := n0_
                            have HB := n1_
                            clear n0_ n1_
                            have p158 : 0 ≤ ((ji12) : Int) := of_decide_eq_true (by first | (with_reducible assumption) | assumption)
                            have q158 : (ji12) < (l0.length : Int) := of_decide_eq_true (by first | (with_reducible assumption) | assumption)
                            obtain ⟨ad158, e158, hx158_0, hx158_1, hx158_2, hx158_3⟩ := at_T79 HR0.out (ji12) p158 q158
                            have hw158_3 := hx158_3
                            have hw158_2 := hx158_2
                            have hw158_1 := hx158_1
                            have hw158_0 := hx158_0
                            (try rw [← Nbq16.out] at hx158_3)
                            obtain rfl : ad155 = ad158 := (by injection e158)
                            try (replace hx158_0 := (HB.out.cell (World.block_lt_of_cell? wm _ hx158_0)).trans hx158_0)
                            try (replace hx158_1 := (HB.out.cell (World.block_lt_of_cell? wm _ hx158_1)).trans hx158_1)
                            try (replace hx158_2 := (HB.out.cell (World.block_lt_of_cell? wm _ hx158_2)).trans hx158_2)
                            try (replace hx158_3 := (HB.out.cell (World.block_lt_of_cell? wm _ hx158_3)).trans hx158_3)
                            replace p158 := eq_true p158
                            replace q158 := eq_true q158
                            refine start_ (n := 28) (S := fun w' => w'.cell? ⟨gb156, 0, none⟩ = some (.string ((rd_T79 l0 x16_1).f0)) ∧ w'.cell? ⟨gb156, 1, none⟩ = some (.int .i64 ((rd_T79 l0 x16_1).f1)) ∧ w'.cell? ⟨gb156, 2, none⟩ = some (.string ((rd_T79 l0 x16_1).f2)) ∧ w'.cell? ⟨gb156, 3, none⟩ = some (.bool false) ∧ w'.cell? (ad155.add (((ji12)).toNat * 4)) = some (.string ((rd_T79 l0 (ji12)).f0)) ∧ w'.cell? ⟨(ad155.add (((ji12)).toNat * 4)).block, (ad155.add (((ji12)).toNat * 4)).off + 1, none⟩ = some (.int .i64 ((rd_T79 l0 (ji12)).f1)) ∧ w'.cell? ⟨(ad155.add (((ji12)).toNat * 4)).block, (ad155.add (((ji12)).toNat * 4)).off + 2, none⟩ = some (.string ((rd_T79 l0 (ji12)).f2)) ∧ w'.cell? ⟨(ad155.add (((ji12)).toNat * 4)).block, (ad155.add (((ji12)).toNat * 4)).off + 3, none⟩ = some (.bool ((rd_T79 l0 (ji12)).f3))) (ds := []) #[false, false, false, false, false, false, false, false, false, false, false, false, false, false, false, false, false, false, false, false, false, false, false, false, false, false, false, false] (by kernel_rfl) rfl rfl ⟨(blk_cell BK156.out 0).trans rfl, (blk_cell BK156.out 1).trans rfl, (blk_cell BK156.out 2).trans rfl, (blk_cell BK156.out 3).trans rfl, ((HB.out.cell (World.block_lt_of_cell? wm _ hw158_0)).trans hw158_0), ((HB.out.cell (World.block_lt_of_cell? wm _ hw158_1)).trans hw158_1), ((HB.out.cell (World.block_lt_of_cell? wm _ hw158_2)).trans hw158_2), ((HB.out.cell (World.block_lt_of_cell? wm _ hw158_3)).trans hw158_3)⟩ (fun hHeld => ?_); refine with_tabW impl_TreeOk.tab7 impl_TreeOk.bits7 (fun HT_ HW_ => ?_)
                            generalize w21.drew = w22 at BK156 HB hx158_0 hx158_1 hx158_2 hx158_3 hHeld ⊢
                            refine pure_ (i := 0) (N := some 21) (v := ?_) (a' := ?_) #[true, false, false, false, false, false, false, false, false, false, false, false, false, false, false, false, false, false, false, false, false, false, false, false, false, false, false, false] rfl rfl (any_of HT_.out (by kernel_rfl)) (fun _ _ _ h => h) (Or.inl ⟨by rfl, ?_⟩) ?_ ?_
                            rotate_left
                            · intro w'
                              go_simp
                              with_reducible rfl
                            rotate_left
                            · simp only [Act.put, List.setIfInBounds_toArray, List.set_cons_zero, List.set_cons_succ, i64_w, i32_w]
                              rfl
                            refine take_ (i := 1) (N := some 22) (v := ?_) (a' := ?_) #[true, true, false, false, false, false, false, false, false, false, false, false, false, false, false, false, false, false, false, false, false, false, false, false, false, false, false, false] rfl rfl (take_ofW HT_.out HW_.out (by kernel_rfl)) (fun _ _ _ h => h) (Or.inl ⟨by rfl, ?_⟩) hHeld ?_ ?_
                            rotate_left
                            · rintro w' ⟨s0, s1, s2, s3, s4, s5, s6, s7⟩
                              go_simp
                              with_reducible rfl
                            rotate_left
                            · simp only [Act.put, List.setIfInBounds_toArray, List.set_cons_zero, List.set_cons_succ, i64_w, i32_w]
                              rfl
                            refine one_ (i := 2) (N := some 23) #[true, true, true, false, false, false, false, false, false, false, false, false, false, false, false, false, false, false, false, false, false, false, false, false, false, false, false, false] rfl rfl (one_of HT_.out (by kernel_rfl)) (by decide) (fun K hK => ?_)
                            refine goes_ Tryd.func63 (by kernel_rfl) rfl #[.string ((rd_T79 l0 x16_1).f0)] (by rfl) rfl rfl (by (try simp only [List.map_toArray, List.map_cons, List.map_nil]); first | done | rfl | (simp only [List.length_drop, List.length_take]; rfl)) ?_
                            with_reducible refine (impl_pathOk.calls k1 ((rd_T79 l0 x16_1).f0) true _ A9.out).mono ?_
                            rintro e w23 ⟨rfl, hb⟩
                            refine ⟨_, rfl, ?_⟩
                            have n0_ := Aside0.mk (blk_below (g := gb156) (o := .cells #[.string ((rd_T79 l0 x16_1).f0), .int .i64 ((rd_T79 l0 x16_1).f1), .string ((rd_T79 l0 x16_1).f2), .bool false] 79 (0, 0)) (by (with_reducible repeat (first | refine blk_drewN ?_ _ | refine blk_drew ?_ | refine blk_alloc ?_ _)); exact BK156.out) hb)
                            have n1_ := Aside0.mk (below_step (by repeat (first | (with_reducible first | exact HB.out | apply below_alloc | apply pw_below_drewN | apply below_drew1 | refine below_set ?_ GE156.out) | exact HB.out)) hb)
                            clear BK156
                            clear HB
                            have BK156 := n0_
                            have HB := n1_
                            clear n0_ n1_
                            (try clear hb)
                            (try clear hb2)
                            (try clear hk)
                            (try clear hi)
                            refine hK.out _ _ ⟨(blk_cell BK156.out 0).trans rfl, (blk_cell BK156.out 1).trans rfl, (blk_cell BK156.out 2).trans rfl, (blk_cell BK156.out 3).trans rfl, ((HB.out.cell (World.block_lt_of_cell? wm _ hw158_0)).trans hw158_0), ((HB.out.cell (World.block_lt_of_cell? wm _ hw158_1)).trans hw158_1), ((HB.out.cell (World.block_lt_of_cell? wm _ hw158_2)).trans hw158_2), ((HB.out.cell (World.block_lt_of_cell? wm _ hw158_3)).trans hw158_3)⟩ (fun hHeld => ?_)
                            clear hK K
                            refine norm_ (a' := ?_) ?_ ?_
                            rotate_left
                            · show Act.put _ (some 23) _ = _
                              simp only [Act.put, List.setIfInBounds_toArray, List.set_cons_zero, List.set_cons_succ, i64_w, i32_w]
                              rfl
                            refine pure_ (i := 3) (N := some 24) (v := ?_) (a' := ?_) #[true, true, true, true, false, false, false, false, false, false, false, false, false, false, false, false, false, false, false, false, false, false, false, false, false, false, false, false] rfl rfl (any_of HT_.out (by kernel_rfl)) (fun _ _ _ h => h) (Or.inl ⟨by rfl, ?_⟩) ?_ ?_
                            rotate_left
                            · intro w'
                              go_simp
                              with_reducible rfl
                            rotate_left
                            · simp only [Act.put, List.setIfInBounds_toArray, List.set_cons_zero, List.set_cons_succ, i64_w, i32_w]
                              rfl
                            refine pure_ (i := 4) (N := some 25) (v := ?_) (a' := ?_) #[true, true, true, true, true, false, false, false, false, false, false, false, false, false, false, false, false, false, false, false, false, false, false, false, false, false, false, false] rfl rfl (any_of HT_.out (by kernel_rfl)) (fun _ _ _ h => h) (Or.inl ⟨by rfl, ?_⟩) ?_ ?_
                            rotate_left
                            · intro w'
                              go_simp
                              with_reducible rfl
                            rotate_left
                            · simp only [Act.put, List.setIfInBounds_toArray, List.set_cons_zero, List.set_cons_succ, i64_w, i32_w]
                              rfl
                            refine pure_ (i := 5) (N := some 26) (v := ?_) (a' := ?_) #[true, true, true, true, true, true, false, false, false, false, false, false, false, false, false, false, false, false, false, false, false, false, false, false, false, false, false, false] rfl rfl (any_of HT_.out (by kernel_rfl)) (fun _ _ _ h => h) (Or.inl ⟨by rfl, ?_⟩) ?_ ?_
                            rotate_left
                            · intro w'
                              go_simp
                              with_reducible rfl
                            rotate_left
                            · simp only [Act.put, List.setIfInBounds_toArray, List.set_cons_zero, List.set_cons_succ, i64_w, i32_w]
                              rfl
                            refine pure_ (i := 6) (N := some 27) (v := ?_) (a' := ?_) #[true, true, true, true, true, true, true, false, false, false, false, false, false, false, false, false, false, false, false, false, false, false, false, false, false, false, false, false] rfl rfl (any_of HT_.out (by kernel_rfl)) (fun _ _ _ h => h) (Or.inl ⟨by rfl, ?_⟩) ?_ ?_
                            rotate_left
                            · intro w'
                              go_simp
                              with_reducible rfl
                            rotate_left
                            · simp only [Act.put, List.setIfInBounds_toArray, List.set_cons_zero, List.set_cons_succ, i64_w, i32_w]
                              rfl
                            refine pure_ (i := 7) (N := some 28) (v := ?_) (a' := ?_) #[true, true, true, true, true, true, true, true, false, false, false, false, false, false, false, false, false, false, false, false, false, false, false, false, false, false, false, false] rfl rfl (any_of HT_.out (by kernel_rfl)) (fun _ _ _ h => h) (Or.inl ⟨by rfl, ?_⟩) ?_ ?_
                            rotate_left
                            · intro w'
                              go_simp
                              with_reducible rfl
                            rotate_left
                            · simp only [Act.put, List.setIfInBounds_toArray, List.set_cons_zero, List.set_cons_succ, i64_w, i32_w]
                              rfl
                            refine pure_ (i := 8) (N := some 29) (v := ?_) (a' := ?_) #[true, true, true, true, true, true, true, true, true, false, false, false, false, false, false, false, false, false, false, false, false, false, false, false, false, false, false, false] rfl rfl (any_of HT_.out (by kernel_rfl)) (fun _ _ _ h => h) (Or.inl ⟨by rfl, ?_⟩) ?_ ?_
                            rotate_left
                            · intro w'
                              go_simp
                              with_reducible rfl
                            rotate_left
                            · simp only [Act.put, List.setIfInBounds_toArray, List.set_cons_zero, List.set_cons_succ, i64_w, i32_w]
                              rfl
                            refine pure_ (i := 10) (N := some 31) (v := ?_) (a' := ?_) #[true, true, true, true, true, true, true, true, true, false, true, false, false, false, false, false, false, false, false, false, false, false, false, false, false, false, false, false] rfl rfl (any_of HT_.out (by kernel_rfl)) (fun _ _ _ h => h) (Or.inl ⟨by rfl, ?_⟩) ?_ ?_
                            rotate_left
                            · intro w'
                              go_simp
                              with_reducible rfl
                            rotate_left
                            · simp only [Act.put, List.setIfInBounds_toArray, List.set_cons_zero, List.set_cons_succ, i64_w, i32_w]
                              rfl
                            refine pure_ (i := 11) (N := some 32) (v := ?_) (a' := ?_) #[true, true, true, true, true, true, true, true, true, false, true, true, false, false, false, false, false, false, false, false, false, false, false, false, false, false, false, false] rfl rfl (any_of HT_.out (by kernel_rfl)) (fun _ _ _ h => h) (Or.inl ⟨by rfl, ?_⟩) ?_ ?_
                            rotate_left
                            · intro w'
                              go_simp
                              with_reducible rfl
                            rotate_left
                            · simp only [Act.put, List.setIfInBounds_toArray, List.set_cons_zero, List.set_cons_succ, i64_w, i32_w]
                              rfl
                            refine pure_ (i := 12) (N := some 33) (v := ?_) (a' := ?_) #[true, true, true, true, true, true, true, true, true, false, true, true, true, false, false, false, false, false, false, false, false, false, false, false, false, false, false, false] rfl rfl (any_of HT_.out (by kernel_rfl)) (fun _ _ _ h => h) (Or.inl ⟨by rfl, ?_⟩) ?_ ?_
                            rotate_left
                            · intro w'
                              go_simp
                              with_reducible rfl
                            rotate_left
                            · simp only [Act.put, List.setIfInBounds_toArray, List.set_cons_zero, List.set_cons_succ, i64_w, i32_w]
                              rfl
                            refine pure_ (i := 13) (N := some 34) (v := ?_) (a' := ?_) #[true, true, true, true, true, true, true, true, true, false, true, true, true, true, false, false, false, false, false, false, false, false, false, false, false, false, false, false] rfl rfl (any_of HT_.out (by kernel_rfl)) (fun _ _ _ h => h) (Or.inl ⟨by rfl, ?_⟩) ?_ ?_
                            rotate_left
                            · intro w'
                              go_simp
                              with_reducible rfl
                            rotate_left
                            · simp only [Act.put, List.setIfInBounds_toArray, List.set_cons_zero, List.set_cons_succ, i64_w, i32_w]
                              rfl
                            refine pure_ (i := 14) (N := some 35) (v := ?_) (a' := ?_) #[true, true, true, true, true, true, true, true, true, false, true, true, true, true, true, false, false, false, false, false, false, false, false, false, false, false, false, false] rfl rfl (any_of HT_.out (by kernel_rfl)) (fun _ _ _ h => h) (Or.inl ⟨by rfl, ?_⟩) ?_ ?_
                            rotate_left
                            · intro w'
                              go_simp
                              with_reducible rfl
                            rotate_left
                            · simp only [Act.put, List.setIfInBounds_toArray, List.set_cons_zero, List.set_cons_succ, i64_w, i32_w]
                              rfl
                            refine take_ (i := 9) (N := some 30) (v := ?_) (a' := ?_) #[true, true, true, true, true, true, true, true, true, true, true, true, true, true, true, false, false, false, false, false, false, false, false, false, false, false, false, false] rfl rfl (take_ofW HT_.out HW_.out (by kernel_rfl)) (fun _ _ _ h => h) (Or.inl ⟨by rfl, ?_⟩) hHeld ?_ ?_
                            rotate_left
                            · rintro w' ⟨s0, s1, s2, s3, s4, s5, s6, s7⟩
                              go_simp
                              with_reducible rfl
                            rotate_left
                            · simp only [Act.put, List.setIfInBounds_toArray, List.set_cons_zero, List.set_cons_succ, i64_w, i32_w]
                              rfl
                            refine take_ (i := 15) (N := some 36) (v := ?_) (a' := ?_) #[true, true, true, true, true, true, true, true, true, true, true, true, true, true, true, true, false, false, false, false, false, false, false, false, false, false, false, false] rfl rfl (take_ofW HT_.out HW_.out (by kernel_rfl)) (fun _ _ _ h => h) (Or.inl ⟨by rfl, ?_⟩) hHeld ?_ ?_
                            rotate_left
                            · rintro w' ⟨s0, s1, s2, s3, s4, s5, s6, s7⟩
                              go_simp
                              with_reducible rfl
                            rotate_left
                            · simp only [Act.put, List.setIfInBounds_toArray, List.set_cons_zero, List.set_cons_succ, i64_w, i32_w]
                              rfl
                            refine pure_ (i := 16) (N := some 37) (v := ?_) (a' := ?_) #[true, true, true, true, true, true, true, true, true, true, true, true, true, true, true, true, true, false, false, false, false, false, false, false, false, false, false, false] rfl rfl (any_of HT_.out (by kernel_rfl)) (fun _ _ _ h => h) (Or.inl ⟨by rfl, ?_⟩) ?_ ?_
                            rotate_left
                            · intro w'
                              go_simp
                              with_reducible rfl
                            rotate_left
                            · simp only [Act.put, List.setIfInBounds_toArray, List.set_cons_zero, List.set_cons_succ, i64_w, i32_w]
                              rfl
                            refine pure_ (i := 17) (N := some 38) (v := ?_) (a' := ?_) #[true, true, true, true, true, true, true, true, true, true, true, true, true, true, true, true, true, true, false, false, false, false, false, false, false, false, false, false] rfl rfl (any_of HT_.out (by kernel_rfl)) (fun _ _ _ h => h) (Or.inl ⟨by rfl, ?_⟩) ?_ ?_
                            rotate_left
                            · intro w'
                              go_simp
                              with_reducible rfl
                            rotate_left
                            · simp only [Act.put, List.setIfInBounds_toArray, List.set_cons_zero, List.set_cons_succ, i64_w, i32_w]
                              rfl
                            refine pure_ (i := 18) (N := some 39) (v := ?_) (a' := ?_) #[true, true, true, true, true, true, true, true, true, true, true, true, true, true, true, true, true, true, true, false, false, false, false, false, false, false, false, false] rfl rfl (any_of HT_.out (by kernel_rfl)) (fun _ _ _ h => h) (Or.inl ⟨by rfl, ?_⟩) ?_ ?_
                            rotate_left
                            · intro w'
                              go_simp
                              with_reducible rfl
                            rotate_left
                            · simp only [Act.put, List.setIfInBounds_toArray, List.set_cons_zero, List.set_cons_succ, i64_w, i32_w]
                              rfl
                            refine pure_ (i := 19) (N := some 40) (v := ?_) (a' := ?_) #[true, true, true, true, true, true, true, true, true, true, true, true, true, true, true, true, true, true, true, true, false, false, false, false, false, false, false, false] rfl rfl (any_of HT_.out (by kernel_rfl)) (fun _ _ _ h => h) (Or.inl ⟨by rfl, ?_⟩) ?_ ?_
                            rotate_left
                            · intro w'
                              go_simp
                              with_reducible rfl
                            rotate_left
                            · simp only [Act.put, List.setIfInBounds_toArray, List.set_cons_zero, List.set_cons_succ, i64_w, i32_w]
                              rfl
                            refine pure_ (i := 20) (N := some 41) (v := ?_) (a' := ?_) #[true, true, true, true, true, true, true, true, true, true, true, true, true, true, true, true, true, true, true, true, true, false, false, false, false, false, false, false] rfl rfl (any_of HT_.out (by kernel_rfl)) (fun _ _ _ h => h) (Or.inl ⟨by rfl, ?_⟩) ?_ ?_
                            rotate_left
                            · intro w'
                              go_simp
                              with_reducible rfl
                            rotate_left
                            · simp only [Act.put, List.setIfInBounds_toArray, List.set_cons_zero, List.set_cons_succ, i64_w, i32_w]
                              rfl
                            refine take_ (i := 21) (N := some 42) (v := ?_) (a' := ?_) #[true, true, true, true, true, true, true, true, true, true, true, true, true, true, true, true, true, true, true, true, true, true, false, false, false, false, false, false] rfl rfl (take_ofW HT_.out HW_.out (by kernel_rfl)) (fun _ _ _ h => h) (Or.inl ⟨by rfl, ?_⟩) hHeld ?_ ?_
                            rotate_left
                            · rintro w' ⟨s0, s1, s2, s3, s4, s5, s6, s7⟩
                              go_simp
                              with_reducible rfl
                            rotate_left
                            · simp only [Act.put, List.setIfInBounds_toArray, List.set_cons_zero, List.set_cons_succ, i64_w, i32_w]
                              rfl
                            refine pure_ (i := 22) (N := some 43) (v := ?_) (a' := ?_) #[true, true, true, true, true, true, true, true, true, true, true, true, true, true, true, true, true, true, true, true, true, true, true, false, false, false, false, false] rfl rfl (any_of HT_.out (by kernel_rfl)) (fun _ _ _ h => h) (Or.inl ⟨by rfl, ?_⟩) ?_ ?_
                            rotate_left
                            · intro w'
                              go_simp
                              with_reducible rfl
                            rotate_left
                            · simp only [Act.put, List.setIfInBounds_toArray, List.set_cons_zero, List.set_cons_succ, i64_w, i32_w]
                              rfl
                            refine pure_ (i := 23) (N := some 44) (v := undef) (a' := ?_) #[true, true, true, true, true, true, true, true, true, true, true, true, true, true, true, true, true, true, true, true, true, true, true, true, false, false, false, false] rfl rfl (any_of HT_.out (by kernel_rfl)) (fun _ _ _ h => h) (Or.inr ⟨by rfl, rfl⟩) ?_ ?_
                            rotate_left
                            · simp only [Act.put, List.setIfInBounds_toArray, List.set_cons_zero, List.set_cons_succ, i64_w, i32_w]
                              rfl
                            refine pure_ (i := 24) (N := some 45) (v := undef) (a' := ?_) #[true, true, true, true, true, true, true, true, true, true, true, true, true, true, true, true, true, true, true, true, true, true, true, true, true, false, false, false] rfl rfl (any_of HT_.out (by kernel_rfl)) (fun _ _ _ h => h) (Or.inr ⟨by rfl, rfl⟩) ?_ ?_
                            rotate_left
                            · simp only [Act.put, List.setIfInBounds_toArray, List.set_cons_zero, List.set_cons_succ, i64_w, i32_w]
                              rfl
                            refine pure_ (i := 25) (N := some 46) (v := undef) (a' := ?_) #[true, true, true, true, true, true, true, true, true, true, true, true, true, true, true, true, true, true, true, true, true, true, true, true, true, true, false, false] rfl rfl (any_of HT_.out (by kernel_rfl)) (fun _ _ _ h => h) (Or.inr ⟨by rfl, rfl⟩) ?_ ?_
                            rotate_left
                            · simp only [Act.put, List.setIfInBounds_toArray, List.set_cons_zero, List.set_cons_succ, i64_w, i32_w]
                              rfl
                            refine pure_ (i := 26) (N := some 47) (v := ?_) (a' := ?_) #[true, true, true, true, true, true, true, true, true, true, true, true, true, true, true, true, true, true, true, true, true, true, true, true, true, true, true, false] rfl rfl (any_of HT_.out (by kernel_rfl)) (fun _ _ _ h => h) (Or.inl ⟨by rfl, ?_⟩) ?_ ?_
                            rotate_left
                            · intro w'
                              go_simp
                              with_reducible rfl
                            rotate_left
                            · simp only [Act.put, List.setIfInBounds_toArray, List.set_cons_zero, List.set_cons_succ, i64_w, i32_w]
                              rfl
                            refine pure_ (i := 27) (N := some 48) (v := ?_) (a' := ?_) #[true, true, true, true, true, true, true, true, true, true, true, true, true, true, true, true, true, true, true, true, true, true, true, true, true, true, true, true] rfl rfl (any_of HT_.out (by kernel_rfl)) (fun _ _ _ h => h) (Or.inl ⟨by rfl, ?_⟩) ?_ ?_
                            rotate_left
                            · intro w'
                              go_simp
                              with_reducible rfl
                            rotate_left
                            · simp only [Act.put, List.setIfInBounds_toArray, List.set_cons_zero, List.set_cons_succ, i64_w, i32_w]
                              rfl
                            refine done_ (done_of HT_.out (by kernel_rfl)) ?_
                            try go_wp2
                            go_meet
                            case rel => exact ⟨_, (false), (by first | rfl | (simp; done) | (simp [*]; done) | (simp; (generalize ByteArray.toList _ = q; cases q <;> rfl))), (by (try rw [← Nbq16.out]); exact H'), ⟨by have := HK1.out; first | omega | exact Nat.le_refl _⟩, ⟨by (try rw [← Nbq16.out]); (with_reducible repeat (first | refine blk_drewN ?_ _ | refine blk_drew ?_ | refine blk_alloc ?_ _)); exact BK156.out⟩, ⟨by repeat (first | (with_reducible first | exact HB.out | apply below_alloc | apply pw_below_drewN | apply below_drew1 | refine below_set ?_ GE156.out) | exact HB.out)⟩⟩
                        · rw [if_neg c15] at H
                          have c15b0 : (Op.bytesLess (((rd_T79 l0 (ji12)).f0).toList) (((rd_T79 l0 x16_1).f0).toList)) = false := by simpa using c15
                          have c15b0l3 := tleq_l3 c15b0
                          clear c15
                          have H' := Aside0.mk H
                          clear H
                          try go_wp2
                          have n0_ : Aside0 (((((w7.setCell ⟨gb156, 0, none⟩ (.string ((rd_T79 l0 x16_1).f0))).setCell ⟨gb156, 1, none⟩ (.int .i64 ((rd_T79 l0 x16_1).f1))).setCell ⟨gb156, 2, none⟩ (.string ((rd_T79 l0 x16_1).f2))).setCell ⟨gb156, 3, none⟩ (.bool ((rd_T79 l0 x16_1).f3))).heap[gb156]? = some (.cells #[.string ((rd_T79 l0 x16_1).f0), .int .i64 ((rd_T79 l0 x16_1).f1), .string ((rd_T79 l0 x16_1).f2), .bool ((rd_T79 l0 x16_1).f3)] 79 (0, 0))) := ⟨by (with_reducible repeat (first | refine blk_drewN ?_ _ | refine blk_drew ?_ | refine blk_alloc ?_ _)); refine blk_put (cs := #[.string ((rd_T79 l0 x16_1).f0), .int .i64 ((rd_T79 l0 x16_1).f1), .string ((rd_T79 l0 x16_1).f2), .bool false]) ?_ 3 _ rfl; (with_reducible repeat (first | refine blk_drewN ?_ _ | refine blk_drew ?_ | refine blk_alloc ?_ _)); refine blk_put (cs := #[.string ((rd_T79 l0 x16_1).f0), .int .i64 ((rd_T79 l0 x16_1).f1), .string (⟨#[]⟩ : ByteArray), .bool false]) ?_ 2 _ rfl; (with_reducible repeat (first | refine blk_drewN ?_ _ | refine blk_drew ?_ | refine blk_alloc ?_ _)); refine blk_put (cs := #[.string ((rd_T79 l0 x16_1).f0), .int .i64 0, .string (⟨#[]⟩ : ByteArray), .bool false]) ?_ 1 _ rfl; (with_reducible repeat (first | refine blk_drewN ?_ _ | refine blk_drew ?_ | refine blk_alloc ?_ _)); refine blk_put (cs := #[.string (⟨#[]⟩ : ByteArray), .int .i64 0, .string (⟨#[]⟩ : ByteArray), .bool false]) ?_ 0 _ rfl; (with_reducible repeat (first | refine blk_drewN ?_ _ | refine blk_drew ?_ | refine blk_alloc ?_ _)); exact BK156.out⟩
                          have n1_ : Aside0 (Below wm.heap.size wm ((((w7.setCell ⟨gb156, 0, none⟩ (.string ((rd_T79 l0 x16_1).f0))).setCell ⟨gb156, 1, none⟩ (.int .i64 ((rd_T79 l0 x16_1).f1))).setCell ⟨gb156, 2, none⟩ (.string ((rd_T79 l0 x16_1).f2))).setCell ⟨gb156, 3, none⟩ (.bool ((rd_T79 l0 x16_1).f3)))) := ⟨by repeat (first | (with_reducible first | exact HB.out | apply below_alloc | apply pw_below_drewN | apply below_drew1 | refine below_set ?_ GE156.out) | exact HB.out)⟩
                          (try clear BK156)
                          (try clear HB)
                          generalize ((((w7.setCell ⟨gb156, 0, none⟩ (.string ((rd_T79 l0 x16_1).f0))).setCell ⟨gb156, 1, none⟩ (.int .i64 ((rd_T79 l0 x16_1).f1))).setCell ⟨gb156, 2, none⟩ (.string ((rd_T79 l0 x16_1).f2))).setCell ⟨gb156, 3, none⟩ (.bool ((rd_T79 l0 x16_1).f3))) = w24 at n0_ n1_ ⊢
                          have BK156 := n0_
                          have HB := n1_
                          clear n0_ n1_
                          have n0_ := Aside0.mk (blk_drew BK156.out)
                          have n1_ := Aside0.mk (below_drew1 HB.out)
                          clear BK156
                          clear HB
                          have BK156 := n0_
                          have HB := n1_
                          clear n0_ n1_
                          have p158 : 0 ≤ ((ji12) : Int) := of_decide_eq_true (by first | (with_reducible assumption) | assumption)
                          have q158 : (ji12) < (l0.length : Int) := of_decide_eq_true (by first | (with_reducible assumption) | assumption)
                          obtain ⟨ad158, e158, hx158_0, hx158_1, hx158_2, hx158_3⟩ := at_T79 HR0.out (ji12) p158 q158
                          have hw158_3 := hx158_3
                          have hw158_2 := hx158_2
                          have hw158_1 := hx158_1
                          have hw158_0 := hx158_0
                          obtain rfl : ad155 = ad158 := (by injection e158)
                          try (replace hx158_0 := (HB.out.cell (World.block_lt_of_cell? wm _ hx158_0)).trans hx158_0)
                          try (replace hx158_1 := (HB.out.cell (World.block_lt_of_cell? wm _ hx158_1)).trans hx158_1)
                          try (replace hx158_2 := (HB.out.cell (World.block_lt_of_cell? wm _ hx158_2)).trans hx158_2)
                          try (replace hx158_3 := (HB.out.cell (World.block_lt_of_cell? wm _ hx158_3)).trans hx158_3)
                          replace p158 := eq_true p158
                          replace q158 := eq_true q158
                          refine start_ (n := 28) (S := fun w' => w'.cell? ⟨gb156, 0, none⟩ = some (.string ((rd_T79 l0 x16_1).f0)) ∧ w'.cell? ⟨gb156, 1, none⟩ = some (.int .i64 ((rd_T79 l0 x16_1).f1)) ∧ w'.cell? ⟨gb156, 2, none⟩ = some (.string ((rd_T79 l0 x16_1).f2)) ∧ w'.cell? ⟨gb156, 3, none⟩ = some (.bool ((rd_T79 l0 x16_1).f3)) ∧ w'.cell? (ad155.add (((ji12)).toNat * 4)) = some (.string ((rd_T79 l0 (ji12)).f0)) ∧ w'.cell? ⟨(ad155.add (((ji12)).toNat * 4)).block, (ad155.add (((ji12)).toNat * 4)).off + 1, none⟩ = some (.int .i64 ((rd_T79 l0 (ji12)).f1)) ∧ w'.cell? ⟨(ad155.add (((ji12)).toNat * 4)).block, (ad155.add (((ji12)).toNat * 4)).off + 2, none⟩ = some (.string ((rd_T79 l0 (ji12)).f2)) ∧ w'.cell? ⟨(ad155.add (((ji12)).toNat * 4)).block, (ad155.add (((ji12)).toNat * 4)).off + 3, none⟩ = some (.bool ((rd_T79 l0 (ji12)).f3))) (ds := []) #[false, false, false, false, false, false, false, false, false, false, false, false, false, false, false, false, false, false, false, false, false, false, false, false, false, false, false, false] (by kernel_rfl) rfl rfl ⟨(blk_cell BK156.out 0).trans rfl, (blk_cell BK156.out 1).trans rfl, (blk_cell BK156.out 2).trans rfl, (blk_cell BK156.out 3).trans rfl, ((HB.out.cell (World.block_lt_of_cell? wm _ hw158_0)).trans hw158_0), ((HB.out.cell (World.block_lt_of_cell? wm _ hw158_1)).trans hw158_1), ((HB.out.cell (World.block_lt_of_cell? wm _ hw158_2)).trans hw158_2), ((HB.out.cell (World.block_lt_of_cell? wm _ hw158_3)).trans hw158_3)⟩ (fun hHeld => ?_); refine with_tabW impl_TreeOk.tab7 impl_TreeOk.bits7 (fun HT_ HW_ => ?_)
                          generalize w24.drew = w25 at BK156 HB hx158_0 hx158_1 hx158_2 hx158_3 hHeld ⊢
                          refine pure_ (i := 0) (N := some 21) (v := ?_) (a' := ?_) #[true, false, false, false, false, false, false, false, false, false, false, false, false, false, false, false, false, false, false, false, false, false, false, false, false, false, false, false] rfl rfl (any_of HT_.out (by kernel_rfl)) (fun _ _ _ h => h) (Or.inl ⟨by rfl, ?_⟩) ?_ ?_
                          rotate_left
                          · intro w'
                            go_simp
                            with_reducible rfl
                          rotate_left
                          · simp only [Act.put, List.setIfInBounds_toArray, List.set_cons_zero, List.set_cons_succ, i64_w, i32_w]
                            rfl
                          refine take_ (i := 1) (N := some 22) (v := ?_) (a' := ?_) #[true, true, false, false, false, false, false, false, false, false, false, false, false, false, false, false, false, false, false, false, false, false, false, false, false, false, false, false] rfl rfl (take_ofW HT_.out HW_.out (by kernel_rfl)) (fun _ _ _ h => h) (Or.inl ⟨by rfl, ?_⟩) hHeld ?_ ?_
                          rotate_left
                          · rintro w' ⟨s0, s1, s2, s3, s4, s5, s6, s7⟩
                            go_simp
                            with_reducible rfl
                          rotate_left
                          · simp only [Act.put, List.setIfInBounds_toArray, List.set_cons_zero, List.set_cons_succ, i64_w, i32_w]
                            rfl
                          refine one_ (i := 2) (N := some 23) #[true, true, true, false, false, false, false, false, false, false, false, false, false, false, false, false, false, false, false, false, false, false, false, false, false, false, false, false] rfl rfl (one_of HT_.out (by kernel_rfl)) (by decide) (fun K hK => ?_)
                          refine goes_ Tryd.func63 (by kernel_rfl) rfl #[.string ((rd_T79 l0 x16_1).f0)] (by rfl) rfl rfl (by (try simp only [List.map_toArray, List.map_cons, List.map_nil]); first | done | rfl | (simp only [List.length_drop, List.length_take]; rfl)) ?_
                          with_reducible refine (impl_pathOk.calls k1 ((rd_T79 l0 x16_1).f0) true _ A9.out).mono ?_
                          rintro e w26 ⟨rfl, hb⟩
                          refine ⟨_, rfl, ?_⟩
                          have n0_ := Aside0.mk (blk_below (g := gb156) (o := .cells #[.string ((rd_T79 l0 x16_1).f0), .int .i64 ((rd_T79 l0 x16_1).f1), .string ((rd_T79 l0 x16_1).f2), .bool ((rd_T79 l0 x16_1).f3)] 79 (0, 0)) (by (with_reducible repeat (first | refine blk_drewN ?_ _ | refine blk_drew ?_ | refine blk_alloc ?_ _)); exact BK156.out) hb)
                          have n1_ := Aside0.mk (below_step (by repeat (first | (with_reducible first | exact HB.out | apply below_alloc | apply pw_below_drewN | apply below_drew1 | refine below_set ?_ GE156.out) | exact HB.out)) hb)
                          clear BK156
                          clear HB
                          have BK156 := n0_
                          have HB := n1_
                          clear n0_ n1_
                          (try clear hb)
                          (try clear hb2)
                          (try clear hk)
                          (try clear hi)
                          refine hK.out _ _ ⟨(blk_cell BK156.out 0).trans rfl, (blk_cell BK156.out 1).trans rfl, (blk_cell BK156.out 2).trans rfl, (blk_cell BK156.out 3).trans rfl, ((HB.out.cell (World.block_lt_of_cell? wm _ hw158_0)).trans hw158_0), ((HB.out.cell (World.block_lt_of_cell? wm _ hw158_1)).trans hw158_1), ((HB.out.cell (World.block_lt_of_cell? wm _ hw158_2)).trans hw158_2), ((HB.out.cell (World.block_lt_of_cell? wm _ hw158_3)).trans hw158_3)⟩ (fun hHeld => ?_)
                          clear hK K
                          refine norm_ (a' := ?_) ?_ ?_
                          rotate_left
                          · show Act.put _ (some 23) _ = _
                            simp only [Act.put, List.setIfInBounds_toArray, List.set_cons_zero, List.set_cons_succ, i64_w, i32_w]
                            rfl
                          refine pure_ (i := 3) (N := some 24) (v := ?_) (a' := ?_) #[true, true, true, true, false, false, false, false, false, false, false, false, false, false, false, false, false, false, false, false, false, false, false, false, false, false, false, false] rfl rfl (any_of HT_.out (by kernel_rfl)) (fun _ _ _ h => h) (Or.inl ⟨by rfl, ?_⟩) ?_ ?_
                          rotate_left
                          · intro w'
                            go_simp
                            with_reducible rfl
                          rotate_left
                          · simp only [Act.put, List.setIfInBounds_toArray, List.set_cons_zero, List.set_cons_succ, i64_w, i32_w]
                            rfl
                          refine pure_ (i := 4) (N := some 25) (v := ?_) (a' := ?_) #[true, true, true, true, true, false, false, false, false, false, false, false, false, false, false, false, false, false, false, false, false, false, false, false, false, false, false, false] rfl rfl (any_of HT_.out (by kernel_rfl)) (fun _ _ _ h => h) (Or.inl ⟨by rfl, ?_⟩) ?_ ?_
                          rotate_left
                          · intro w'
                            go_simp
                            with_reducible rfl
                          rotate_left
                          · simp only [Act.put, List.setIfInBounds_toArray, List.set_cons_zero, List.set_cons_succ, i64_w, i32_w]
                            rfl
                          refine pure_ (i := 5) (N := some 26) (v := ?_) (a' := ?_) #[true, true, true, true, true, true, false, false, false, false, false, false, false, false, false, false, false, false, false, false, false, false, false, false, false, false, false, false] rfl rfl (any_of HT_.out (by kernel_rfl)) (fun _ _ _ h => h) (Or.inl ⟨by rfl, ?_⟩) ?_ ?_
                          rotate_left
                          · intro w'
                            go_simp
                            with_reducible rfl
                          rotate_left
                          · simp only [Act.put, List.setIfInBounds_toArray, List.set_cons_zero, List.set_cons_succ, i64_w, i32_w]
                            rfl
                          refine pure_ (i := 6) (N := some 27) (v := ?_) (a' := ?_) #[true, true, true, true, true, true, true, false, false, false, false, false, false, false, false, false, false, false, false, false, false, false, false, false, false, false, false, false] rfl rfl (any_of HT_.out (by kernel_rfl)) (fun _ _ _ h => h) (Or.inl ⟨by rfl, ?_⟩) ?_ ?_
                          rotate_left
                          · intro w'
                            go_simp
                            with_reducible rfl
                          rotate_left
                          · simp only [Act.put, List.setIfInBounds_toArray, List.set_cons_zero, List.set_cons_succ, i64_w, i32_w]
                            rfl
                          refine pure_ (i := 7) (N := some 28) (v := ?_) (a' := ?_) #[true, true, true, true, true, true, true, true, false, false, false, false, false, false, false, false, false, false, false, false, false, false, false, false, false, false, false, false] rfl rfl (any_of HT_.out (by kernel_rfl)) (fun _ _ _ h => h) (Or.inl ⟨by rfl, ?_⟩) ?_ ?_
                          rotate_left
                          · intro w'
                            go_simp
                            with_reducible rfl
                          rotate_left
                          · simp only [Act.put, List.setIfInBounds_toArray, List.set_cons_zero, List.set_cons_succ, i64_w, i32_w]
                            rfl
                          refine pure_ (i := 8) (N := some 29) (v := ?_) (a' := ?_) #[true, true, true, true, true, true, true, true, true, false, false, false, false, false, false, false, false, false, false, false, false, false, false, false, false, false, false, false] rfl rfl (any_of HT_.out (by kernel_rfl)) (fun _ _ _ h => h) (Or.inl ⟨by rfl, ?_⟩) ?_ ?_
                          rotate_left
                          · intro w'
                            go_simp
                            with_reducible rfl
                          rotate_left
                          · simp only [Act.put, List.setIfInBounds_toArray, List.set_cons_zero, List.set_cons_succ, i64_w, i32_w]
                            rfl
                          refine pure_ (i := 10) (N := some 31) (v := ?_) (a' := ?_) #[true, true, true, true, true, true, true, true, true, false, true, false, false, false, false, false, false, false, false, false, false, false, false, false, false, false, false, false] rfl rfl (any_of HT_.out (by kernel_rfl)) (fun _ _ _ h => h) (Or.inl ⟨by rfl, ?_⟩) ?_ ?_
                          rotate_left
                          · intro w'
                            go_simp
                            with_reducible rfl
                          rotate_left
                          · simp only [Act.put, List.setIfInBounds_toArray, List.set_cons_zero, List.set_cons_succ, i64_w, i32_w]
                            rfl
                          refine pure_ (i := 11) (N := some 32) (v := ?_) (a' := ?_) #[true, true, true, true, true, true, true, true, true, false, true, true, false, false, false, false, false, false, false, false, false, false, false, false, false, false, false, false] rfl rfl (any_of HT_.out (by kernel_rfl)) (fun _ _ _ h => h) (Or.inl ⟨by rfl, ?_⟩) ?_ ?_
                          rotate_left
                          · intro w'
                            go_simp
                            with_reducible rfl
                          rotate_left
                          · simp only [Act.put, List.setIfInBounds_toArray, List.set_cons_zero, List.set_cons_succ, i64_w, i32_w]
                            rfl
                          refine pure_ (i := 12) (N := some 33) (v := ?_) (a' := ?_) #[true, true, true, true, true, true, true, true, true, false, true, true, true, false, false, false, false, false, false, false, false, false, false, false, false, false, false, false] rfl rfl (any_of HT_.out (by kernel_rfl)) (fun _ _ _ h => h) (Or.inl ⟨by rfl, ?_⟩) ?_ ?_
                          rotate_left
                          · intro w'
                            go_simp
                            with_reducible rfl
                          rotate_left
                          · simp only [Act.put, List.setIfInBounds_toArray, List.set_cons_zero, List.set_cons_succ, i64_w, i32_w]
                            rfl
                          refine pure_ (i := 13) (N := some 34) (v := ?_) (a' := ?_) #[true, true, true, true, true, true, true, true, true, false, true, true, true, true, false, false, false, false, false, false, false, false, false, false, false, false, false, false] rfl rfl (any_of HT_.out (by kernel_rfl)) (fun _ _ _ h => h) (Or.inl ⟨by rfl, ?_⟩) ?_ ?_
                          rotate_left
                          · intro w'
                            go_simp
                            with_reducible rfl
                          rotate_left
                          · simp only [Act.put, List.setIfInBounds_toArray, List.set_cons_zero, List.set_cons_succ, i64_w, i32_w]
                            rfl
                          refine pure_ (i := 14) (N := some 35) (v := ?_) (a' := ?_) #[true, true, true, true, true, true, true, true, true, false, true, true, true, true, true, false, false, false, false, false, false, false, false, false, false, false, false, false] rfl rfl (any_of HT_.out (by kernel_rfl)) (fun _ _ _ h => h) (Or.inl ⟨by rfl, ?_⟩) ?_ ?_
                          rotate_left
                          · intro w'
                            go_simp
                            with_reducible rfl
                          rotate_left
                          · simp only [Act.put, List.setIfInBounds_toArray, List.set_cons_zero, List.set_cons_succ, i64_w, i32_w]
                            rfl
                          refine take_ (i := 9) (N := some 30) (v := ?_) (a' := ?_) #[true, true, true, true, true, true, true, true, true, true, true, true, true, true, true, false, false, false, false, false, false, false, false, false, false, false, false, false] rfl rfl (take_ofW HT_.out HW_.out (by kernel_rfl)) (fun _ _ _ h => h) (Or.inl ⟨by rfl, ?_⟩) hHeld ?_ ?_
                          rotate_left
                          · rintro w' ⟨s0, s1, s2, s3, s4, s5, s6, s7⟩
                            go_simp
                            with_reducible rfl
                          rotate_left
                          · simp only [Act.put, List.setIfInBounds_toArray, List.set_cons_zero, List.set_cons_succ, i64_w, i32_w]
                            rfl
                          refine take_ (i := 15) (N := some 36) (v := ?_) (a' := ?_) #[true, true, true, true, true, true, true, true, true, true, true, true, true, true, true, true, false, false, false, false, false, false, false, false, false, false, false, false] rfl rfl (take_ofW HT_.out HW_.out (by kernel_rfl)) (fun _ _ _ h => h) (Or.inl ⟨by rfl, ?_⟩) hHeld ?_ ?_
                          rotate_left
                          · rintro w' ⟨s0, s1, s2, s3, s4, s5, s6, s7⟩
                            go_simp
                            with_reducible rfl
                          rotate_left
                          · simp only [Act.put, List.setIfInBounds_toArray, List.set_cons_zero, List.set_cons_succ, i64_w, i32_w]
                            rfl
                          refine pure_ (i := 16) (N := some 37) (v := ?_) (a' := ?_) #[true, true, true, true, true, true, true, true, true, true, true, true, true, true, true, true, true, false, false, false, false, false, false, false, false, false, false, false] rfl rfl (any_of HT_.out (by kernel_rfl)) (fun _ _ _ h => h) (Or.inl ⟨by rfl, ?_⟩) ?_ ?_
                          rotate_left
                          · intro w'
                            go_simp
                            with_reducible rfl
                          rotate_left
                          · simp only [Act.put, List.setIfInBounds_toArray, List.set_cons_zero, List.set_cons_succ, i64_w, i32_w]
                            rfl
                          refine pure_ (i := 17) (N := some 38) (v := ?_) (a' := ?_) #[true, true, true, true, true, true, true, true, true, true, true, true, true, true, true, true, true, true, false, false, false, false, false, false, false, false, false, false] rfl rfl (any_of HT_.out (by kernel_rfl)) (fun _ _ _ h => h) (Or.inl ⟨by rfl, ?_⟩) ?_ ?_
                          rotate_left
                          · intro w'
                            go_simp
                            with_reducible rfl
                          rotate_left
                          · simp only [Act.put, List.setIfInBounds_toArray, List.set_cons_zero, List.set_cons_succ, i64_w, i32_w]
                            rfl
                          refine pure_ (i := 18) (N := some 39) (v := ?_) (a' := ?_) #[true, true, true, true, true, true, true, true, true, true, true, true, true, true, true, true, true, true, true, false, false, false, false, false, false, false, false, false] rfl rfl (any_of HT_.out (by kernel_rfl)) (fun _ _ _ h => h) (Or.inl ⟨by rfl, ?_⟩) ?_ ?_
                          rotate_left
                          · intro w'
                            go_simp
                            with_reducible rfl
                          rotate_left
                          · simp only [Act.put, List.setIfInBounds_toArray, List.set_cons_zero, List.set_cons_succ, i64_w, i32_w]
                            rfl
                          refine pure_ (i := 19) (N := some 40) (v := ?_) (a' := ?_) #[true, true, true, true, true, true, true, true, true, true, true, true, true, true, true, true, true, true, true, true, false, false, false, false, false, false, false, false] rfl rfl (any_of HT_.out (by kernel_rfl)) (fun _ _ _ h => h) (Or.inl ⟨by rfl, ?_⟩) ?_ ?_
                          rotate_left
                          · intro w'
                            go_simp
                            with_reducible rfl
                          rotate_left
                          · simp only [Act.put, List.setIfInBounds_toArray, List.set_cons_zero, List.set_cons_succ, i64_w, i32_w]
                            rfl
                          refine pure_ (i := 20) (N := some 41) (v := undef) (a' := ?_) #[true, true, true, true, true, true, true, true, true, true, true, true, true, true, true, true, true, true, true, true, true, false, false, false, false, false, false, false] rfl rfl (any_of HT_.out (by kernel_rfl)) (fun _ _ _ h => h) (Or.inr ⟨by rfl, rfl⟩) ?_ ?_
                          rotate_left
                          · simp only [Act.put, List.setIfInBounds_toArray, List.set_cons_zero, List.set_cons_succ, i64_w, i32_w]
                            rfl
                          refine pure_ (i := 21) (N := some 42) (v := undef) (a' := ?_) #[true, true, true, true, true, true, true, true, true, true, true, true, true, true, true, true, true, true, true, true, true, true, false, false, false, false, false, false] rfl rfl (any_of HT_.out (by kernel_rfl)) (fun _ _ _ h => h) (Or.inr ⟨by rfl, rfl⟩) ?_ ?_
                          rotate_left
                          · simp only [Act.put, List.setIfInBounds_toArray, List.set_cons_zero, List.set_cons_succ, i64_w, i32_w]
                            rfl
                          refine pure_ (i := 22) (N := some 43) (v := undef) (a' := ?_) #[true, true, true, true, true, true, true, true, true, true, true, true, true, true, true, true, true, true, true, true, true, true, true, false, false, false, false, false] rfl rfl (any_of HT_.out (by kernel_rfl)) (fun _ _ _ h => h) (Or.inr ⟨by rfl, rfl⟩) ?_ ?_
                          rotate_left
                          · simp only [Act.put, List.setIfInBounds_toArray, List.set_cons_zero, List.set_cons_succ, i64_w, i32_w]
                            rfl
                          refine pure_ (i := 23) (N := some 44) (v := undef) (a' := ?_) #[true, true, true, true, true, true, true, true, true, true, true, true, true, true, true, true, true, true, true, true, true, true, true, true, false, false, false, false] rfl rfl (any_of HT_.out (by kernel_rfl)) (fun _ _ _ h => h) (Or.inr ⟨by rfl, rfl⟩) ?_ ?_
                          rotate_left
                          · simp only [Act.put, List.setIfInBounds_toArray, List.set_cons_zero, List.set_cons_succ, i64_w, i32_w]
                            rfl
                          refine pure_ (i := 24) (N := some 45) (v := undef) (a' := ?_) #[true, true, true, true, true, true, true, true, true, true, true, true, true, true, true, true, true, true, true, true, true, true, true, true, true, false, false, false] rfl rfl (any_of HT_.out (by kernel_rfl)) (fun _ _ _ h => h) (Or.inr ⟨by rfl, rfl⟩) ?_ ?_
                          rotate_left
                          · simp only [Act.put, List.setIfInBounds_toArray, List.set_cons_zero, List.set_cons_succ, i64_w, i32_w]
                            rfl
                          refine pure_ (i := 25) (N := some 46) (v := undef) (a' := ?_) #[true, true, true, true, true, true, true, true, true, true, true, true, true, true, true, true, true, true, true, true, true, true, true, true, true, true, false, false] rfl rfl (any_of HT_.out (by kernel_rfl)) (fun _ _ _ h => h) (Or.inr ⟨by rfl, rfl⟩) ?_ ?_
                          rotate_left
                          · simp only [Act.put, List.setIfInBounds_toArray, List.set_cons_zero, List.set_cons_succ, i64_w, i32_w]
                            rfl
                          refine pure_ (i := 26) (N := some 47) (v := undef) (a' := ?_) #[true, true, true, true, true, true, true, true, true, true, true, true, true, true, true, true, true, true, true, true, true, true, true, true, true, true, true, false] rfl rfl (any_of HT_.out (by kernel_rfl)) (fun _ _ _ h => h) (Or.inr ⟨by rfl, rfl⟩) ?_ ?_
                          rotate_left
                          · simp only [Act.put, List.setIfInBounds_toArray, List.set_cons_zero, List.set_cons_succ, i64_w, i32_w]
                            rfl
                          refine pure_ (i := 27) (N := some 48) (v := ?_) (a' := ?_) #[true, true, true, true, true, true, true, true, true, true, true, true, true, true, true, true, true, true, true, true, true, true, true, true, true, true, true, true] rfl rfl (any_of HT_.out (by kernel_rfl)) (fun _ _ _ h => h) (Or.inl ⟨by rfl, ?_⟩) ?_ ?_
                          rotate_left
                          · intro w'
                            go_simp
                            with_reducible rfl
                          rotate_left
                          · simp only [Act.put, List.setIfInBounds_toArray, List.set_cons_zero, List.set_cons_succ, i64_w, i32_w]
                            rfl
                          refine done_ (done_of HT_.out (by kernel_rfl)) ?_
                          try go_wp2
                          go_meet
                          case rel => exact ⟨_, (true), (by first | rfl | (simp; done) | (simp [*]; done) | (simp; (generalize ByteArray.toList _ = q; cases q <;> rfl))), (by first | exact H' | (rw [hji12]; exact H')), ⟨by have := HK1.out; first | omega | exact Nat.le_refl _⟩, ⟨by (with_reducible repeat (first | refine blk_drewN ?_ _ | refine blk_drew ?_ | refine blk_alloc ?_ _)); exact BK156.out⟩, ⟨by repeat (first | (with_reducible first | exact HB.out | apply below_alloc | apply pw_below_drewN | apply below_drew1 | refine below_set ?_ GE156.out) | exact HB.out)⟩⟩
                      · rw [if_neg c14] at H
                        exact absurd H (by simp)
                    · rw [if_neg c13] at H
                      exact absurd H (by simp)
                  · rw [if_neg c11] at H
                    have c11b0 : decide (0 < x16_1) = false := decide_eq_false c11
                    clear c11
                    (first | rw [c11b0] | (simp only [i64_w, i32_w]; rw [c11b0]) | skip)
                    obtain ⟨bq27, hbq27⟩ : ∃ b_ : Bool, b_ = ((rd_T79 l0 x16_1).f3) := ⟨_, rfl⟩
                    replace H : (if bq27 = true then (impl_TreeOk.j1 k1 l0 l0 (l0.length : Int) x16_1 (((rd_T79 l0 x16_1).f1) != 2) ((rd_T79 l0 x16_1).f0) ((rd_T79 l0 x16_1).f1) ((rd_T79 l0 x16_1).f2) bq27) else (impl_TreeOk.j1 k1 l0 l0 (l0.length : Int) x16_1 false ((rd_T79 l0 x16_1).f0) ((rd_T79 l0 x16_1).f1) ((rd_T79 l0 x16_1).f2) bq27)) = some r := by rw [← hbq27] at H; exact H
                    have Nbq27 := Aside0.mk hbq27
                    clear hbq27
                    by_cases c28 : bq27 = true
                    · subst c28
                      have H1 : (impl_TreeOk.j1 k1 l0 l0 (l0.length : Int) x16_1 (((rd_T79 l0 x16_1).f1) != 2) ((rd_T79 l0 x16_1).f0) ((rd_T79 l0 x16_1).f1) ((rd_T79 l0 x16_1).f2) true) = some r := by rw [if_pos rfl] at H; exact H
                      clear H
                      have H := H1
                      clear H1
                      have H' := Aside0.mk H
                      clear H
                      (try rw [← Nbq27.out])
                      try go_wp2
                      have n0_ : Aside0 (((((w7.setCell ⟨gb156, 0, none⟩ (.string ((rd_T79 l0 x16_1).f0))).setCell ⟨gb156, 1, none⟩ (.int .i64 ((rd_T79 l0 x16_1).f1))).setCell ⟨gb156, 2, none⟩ (.string ((rd_T79 l0 x16_1).f2))).setCell ⟨gb156, 3, none⟩ (.bool (true))).heap[gb156]? = some (.cells #[.string ((rd_T79 l0 x16_1).f0), .int .i64 ((rd_T79 l0 x16_1).f1), .string ((rd_T79 l0 x16_1).f2), .bool true] 79 (0, 0))) := ⟨by (with_reducible repeat (first | refine blk_drewN ?_ _ | refine blk_drew ?_ | refine blk_alloc ?_ _)); refine blk_put (cs := #[.string ((rd_T79 l0 x16_1).f0), .int .i64 ((rd_T79 l0 x16_1).f1), .string ((rd_T79 l0 x16_1).f2), .bool false]) ?_ 3 _ rfl; (with_reducible repeat (first | refine blk_drewN ?_ _ | refine blk_drew ?_ | refine blk_alloc ?_ _)); refine blk_put (cs := #[.string ((rd_T79 l0 x16_1).f0), .int .i64 ((rd_T79 l0 x16_1).f1), .string (⟨#[]⟩ : ByteArray), .bool false]) ?_ 2 _ rfl; (with_reducible repeat (first | refine blk_drewN ?_ _ | refine blk_drew ?_ | refine blk_alloc ?_ _)); refine blk_put (cs := #[.string ((rd_T79 l0 x16_1).f0), .int .i64 0, .string (⟨#[]⟩ : ByteArray), .bool false]) ?_ 1 _ rfl; (with_reducible repeat (first | refine blk_drewN ?_ _ | refine blk_drew ?_ | refine blk_alloc ?_ _)); refine blk_put (cs := #[.string (⟨#[]⟩ : ByteArray), .int .i64 0, .string (⟨#[]⟩ : ByteArray), .bool false]) ?_ 0 _ rfl; (with_reducible repeat (first | refine blk_drewN ?_ _ | refine blk_drew ?_ | refine blk_alloc ?_ _)); exact BK156.out⟩
                      have n1_ : Aside0 (Below wm.heap.size wm ((((w7.setCell ⟨gb156, 0, none⟩ (.string ((rd_T79 l0 x16_1).f0))).setCell ⟨gb156, 1, none⟩ (.int .i64 ((rd_T79 l0 x16_1).f1))).setCell ⟨gb156, 2, none⟩ (.string ((rd_T79 l0 x16_1).f2))).setCell ⟨gb156, 3, none⟩ (.bool (true)))) := ⟨by repeat (first | (with_reducible first | exact HB.out | apply below_alloc | apply pw_below_drewN | apply below_drew1 | refine below_set ?_ GE156.out) | exact HB.out)⟩
                      (try clear BK156)
                      (try clear HB)
                      generalize ((((w7.setCell ⟨gb156, 0, none⟩ (.string ((rd_T79 l0 x16_1).f0))).setCell ⟨gb156, 1, none⟩ (.int .i64 ((rd_T79 l0 x16_1).f1))).setCell ⟨gb156, 2, none⟩ (.string ((rd_T79 l0 x16_1).f2))).setCell ⟨gb156, 3, none⟩ (.bool (true))) = w29 at n0_ n1_ ⊢
                      have BK156 := n0_
                      have HB := n1_
                      clear n0_ n1_
                      have n0_ := Aside0.mk (blk_drew BK156.out)
                      have n1_ := Aside0.mk (below_drew1 HB.out)
                      clear BK156
                      clear HB
                      have BK156 := n0_
                      have HB := n1_
                      clear n0_ n1_
                      refine start_ (n := 28) (S := fun w' => w'.cell? ⟨gb156, 0, none⟩ = some (.string ((rd_T79 l0 x16_1).f0)) ∧ w'.cell? ⟨gb156, 1, none⟩ = some (.int .i64 ((rd_T79 l0 x16_1).f1)) ∧ w'.cell? ⟨gb156, 2, none⟩ = some (.string ((rd_T79 l0 x16_1).f2)) ∧ w'.cell? ⟨gb156, 3, none⟩ = some (.bool true)) (ds := []) #[false, false, false, false, false, false, false, false, false, false, false, false, false, false, false, false, false, false, false, false, false, false, false, false, false, false, false, false] (by kernel_rfl) rfl rfl ⟨(blk_cell BK156.out 0).trans rfl, (blk_cell BK156.out 1).trans rfl, (blk_cell BK156.out 2).trans rfl, (blk_cell BK156.out 3).trans rfl⟩ (fun hHeld => ?_); refine with_tabW impl_TreeOk.tab7 impl_TreeOk.bits7 (fun HT_ HW_ => ?_)
                      generalize w29.drew = w30 at BK156 HB hHeld ⊢
                      refine pure_ (i := 0) (N := some 21) (v := ?_) (a' := ?_) #[true, false, false, false, false, false, false, false, false, false, false, false, false, false, false, false, false, false, false, false, false, false, false, false, false, false, false, false] rfl rfl (any_of HT_.out (by kernel_rfl)) (fun _ _ _ h => h) (Or.inl ⟨by rfl, ?_⟩) ?_ ?_
                      rotate_left
                      · intro w'
                        go_simp
                        with_reducible rfl
                      rotate_left
                      · simp only [Act.put, List.setIfInBounds_toArray, List.set_cons_zero, List.set_cons_succ, i64_w, i32_w]
                        rfl
                      refine take_ (i := 1) (N := some 22) (v := ?_) (a' := ?_) #[true, true, false, false, false, false, false, false, false, false, false, false, false, false, false, false, false, false, false, false, false, false, false, false, false, false, false, false] rfl rfl (take_ofW HT_.out HW_.out (by kernel_rfl)) (fun _ _ _ h => h) (Or.inl ⟨by rfl, ?_⟩) hHeld ?_ ?_
                      rotate_left
                      · rintro w' ⟨s0, s1, s2, s3⟩
                        go_simp
                        with_reducible rfl
                      rotate_left
                      · simp only [Act.put, List.setIfInBounds_toArray, List.set_cons_zero, List.set_cons_succ, i64_w, i32_w]
                        rfl
                      refine one_ (i := 2) (N := some 23) #[true, true, true, false, false, false, false, false, false, false, false, false, false, false, false, false, false, false, false, false, false, false, false, false, false, false, false, false] rfl rfl (one_of HT_.out (by kernel_rfl)) (by decide) (fun K hK => ?_)
                      refine goes_ Tryd.func63 (by kernel_rfl) rfl #[.string ((rd_T79 l0 x16_1).f0)] (by rfl) rfl rfl (by (try simp only [List.map_toArray, List.map_cons, List.map_nil]); first | done | rfl | (simp only [List.length_drop, List.length_take]; rfl)) ?_
                      with_reducible refine (impl_pathOk.calls k1 ((rd_T79 l0 x16_1).f0) true _ A9.out).mono ?_
                      rintro e w31 ⟨rfl, hb⟩
                      refine ⟨_, rfl, ?_⟩
                      have n0_ := Aside0.mk (blk_below (g := gb156) (o := .cells #[.string ((rd_T79 l0 x16_1).f0), .int .i64 ((rd_T79 l0 x16_1).f1), .string ((rd_T79 l0 x16_1).f2), .bool true] 79 (0, 0)) (by (with_reducible repeat (first | refine blk_drewN ?_ _ | refine blk_drew ?_ | refine blk_alloc ?_ _)); exact BK156.out) hb)
                      have n1_ := Aside0.mk (below_step (by repeat (first | (with_reducible first | exact HB.out | apply below_alloc | apply pw_below_drewN | apply below_drew1 | refine below_set ?_ GE156.out) | exact HB.out)) hb)
                      clear BK156
                      clear HB
                      have BK156 := n0_
                      have HB := n1_
                      clear n0_ n1_
                      (try clear hb)
                      (try clear hb2)
                      (try clear hk)
                      (try clear hi)
                      refine hK.out _ _ ⟨(blk_cell BK156.out 0).trans rfl, (blk_cell BK156.out 1).trans rfl, (blk_cell BK156.out 2).trans rfl, (blk_cell BK156.out 3).trans rfl⟩ (fun hHeld => ?_)
                      clear hK K
                      refine norm_ (a' := ?_) ?_ ?_
                      rotate_left
                      · show Act.put _ (some 23) _ = _
                        simp only [Act.put, List.setIfInBounds_toArray, List.set_cons_zero, List.set_cons_succ, i64_w, i32_w]
                        rfl
                      refine pure_ (i := 3) (N := some 24) (v := ?_) (a' := ?_) #[true, true, true, true, false, false, false, false, false, false, false, false, false, false, false, false, false, false, false, false, false, false, false, false, false, false, false, false] rfl rfl (any_of HT_.out (by kernel_rfl)) (fun _ _ _ h => h) (Or.inl ⟨by rfl, ?_⟩) ?_ ?_
                      rotate_left
                      · intro w'
                        go_simp
                        with_reducible rfl
                      rotate_left
                      · simp only [Act.put, List.setIfInBounds_toArray, List.set_cons_zero, List.set_cons_succ, i64_w, i32_w]
                        rfl
                      refine pure_ (i := 4) (N := some 25) (v := ?_) (a' := ?_) #[true, true, true, true, true, false, false, false, false, false, false, false, false, false, false, false, false, false, false, false, false, false, false, false, false, false, false, false] rfl rfl (any_of HT_.out (by kernel_rfl)) (fun _ _ _ h => h) (Or.inl ⟨by rfl, ?_⟩) ?_ ?_
                      rotate_left
                      · intro w'
                        go_simp
                        with_reducible rfl
                      rotate_left
                      · simp only [Act.put, List.setIfInBounds_toArray, List.set_cons_zero, List.set_cons_succ, i64_w, i32_w]
                        rfl
                      refine pure_ (i := 5) (N := some 26) (v := ?_) (a' := ?_) #[true, true, true, true, true, true, false, false, false, false, false, false, false, false, false, false, false, false, false, false, false, false, false, false, false, false, false, false] rfl rfl (any_of HT_.out (by kernel_rfl)) (fun _ _ _ h => h) (Or.inl ⟨by rfl, ?_⟩) ?_ ?_
                      rotate_left
                      · intro w'
                        go_simp
                        with_reducible rfl
                      rotate_left
                      · simp only [Act.put, List.setIfInBounds_toArray, List.set_cons_zero, List.set_cons_succ, i64_w, i32_w]
                        rfl
                      refine pure_ (i := 6) (N := some 27) (v := ?_) (a' := ?_) #[true, true, true, true, true, true, true, false, false, false, false, false, false, false, false, false, false, false, false, false, false, false, false, false, false, false, false, false] rfl rfl (any_of HT_.out (by kernel_rfl)) (fun _ _ _ h => h) (Or.inl ⟨by rfl, ?_⟩) ?_ ?_
                      rotate_left
                      · intro w'
                        go_simp
                        with_reducible rfl
                      rotate_left
                      · simp only [Act.put, List.setIfInBounds_toArray, List.set_cons_zero, List.set_cons_succ, i64_w, i32_w]
                        rfl
                      refine pure_ (i := 7) (N := some 28) (v := ?_) (a' := ?_) #[true, true, true, true, true, true, true, true, false, false, false, false, false, false, false, false, false, false, false, false, false, false, false, false, false, false, false, false] rfl rfl (any_of HT_.out (by kernel_rfl)) (fun _ _ _ h => h) (Or.inl ⟨by rfl, ?_⟩) ?_ ?_
                      rotate_left
                      · intro w'
                        go_simp
                        with_reducible rfl
                      rotate_left
                      · simp only [Act.put, List.setIfInBounds_toArray, List.set_cons_zero, List.set_cons_succ, i64_w, i32_w]
                        rfl
                      refine pure_ (i := 8) (N := some 29) (v := undef) (a' := ?_) #[true, true, true, true, true, true, true, true, true, false, false, false, false, false, false, false, false, false, false, false, false, false, false, false, false, false, false, false] rfl rfl (any_of HT_.out (by kernel_rfl)) (fun _ _ _ h => h) (Or.inr ⟨by rfl, rfl⟩) ?_ ?_
                      rotate_left
                      · simp only [Act.put, List.setIfInBounds_toArray, List.set_cons_zero, List.set_cons_succ, i64_w, i32_w]
                        rfl
                      refine pure_ (i := 9) (N := some 30) (v := undef) (a' := ?_) #[true, true, true, true, true, true, true, true, true, true, false, false, false, false, false, false, false, false, false, false, false, false, false, false, false, false, false, false] rfl rfl (any_of HT_.out (by kernel_rfl)) (fun _ _ _ h => h) (Or.inr ⟨by rfl, rfl⟩) ?_ ?_
                      rotate_left
                      · simp only [Act.put, List.setIfInBounds_toArray, List.set_cons_zero, List.set_cons_succ, i64_w, i32_w]
                        rfl
                      refine pure_ (i := 10) (N := some 31) (v := undef) (a' := ?_) #[true, true, true, true, true, true, true, true, true, true, true, false, false, false, false, false, false, false, false, false, false, false, false, false, false, false, false, false] rfl rfl (any_of HT_.out (by kernel_rfl)) (fun _ _ _ h => h) (Or.inr ⟨by rfl, rfl⟩) ?_ ?_
                      rotate_left
                      · simp only [Act.put, List.setIfInBounds_toArray, List.set_cons_zero, List.set_cons_succ, i64_w, i32_w]
                        rfl
                      refine pure_ (i := 11) (N := some 32) (v := undef) (a' := ?_) #[true, true, true, true, true, true, true, true, true, true, true, true, false, false, false, false, false, false, false, false, false, false, false, false, false, false, false, false] rfl rfl (any_of HT_.out (by kernel_rfl)) (fun _ _ _ h => h) (Or.inr ⟨by rfl, rfl⟩) ?_ ?_
                      rotate_left
                      · simp only [Act.put, List.setIfInBounds_toArray, List.set_cons_zero, List.set_cons_succ, i64_w, i32_w]
                        rfl
                      refine pure_ (i := 12) (N := some 33) (v := undef) (a' := ?_) #[true, true, true, true, true, true, true, true, true, true, true, true, true, false, false, false, false, false, false, false, false, false, false, false, false, false, false, false] rfl rfl (any_of HT_.out (by kernel_rfl)) (fun _ _ _ h => h) (Or.inr ⟨by rfl, rfl⟩) ?_ ?_
                      rotate_left
                      · simp only [Act.put, List.setIfInBounds_toArray, List.set_cons_zero, List.set_cons_succ, i64_w, i32_w]
                        rfl
                      refine pure_ (i := 13) (N := some 34) (v := undef) (a' := ?_) #[true, true, true, true, true, true, true, true, true, true, true, true, true, true, false, false, false, false, false, false, false, false, false, false, false, false, false, false] rfl rfl (any_of HT_.out (by kernel_rfl)) (fun _ _ _ h => h) (Or.inr ⟨by rfl, rfl⟩) ?_ ?_
                      rotate_left
                      · simp only [Act.put, List.setIfInBounds_toArray, List.set_cons_zero, List.set_cons_succ, i64_w, i32_w]
                        rfl
                      refine pure_ (i := 14) (N := some 35) (v := undef) (a' := ?_) #[true, true, true, true, true, true, true, true, true, true, true, true, true, true, true, false, false, false, false, false, false, false, false, false, false, false, false, false] rfl rfl (any_of HT_.out (by kernel_rfl)) (fun _ _ _ h => h) (Or.inr ⟨by rfl, rfl⟩) ?_ ?_
                      rotate_left
                      · simp only [Act.put, List.setIfInBounds_toArray, List.set_cons_zero, List.set_cons_succ, i64_w, i32_w]
                        rfl
                      refine pure_ (i := 15) (N := some 36) (v := undef) (a' := ?_) #[true, true, true, true, true, true, true, true, true, true, true, true, true, true, true, true, false, false, false, false, false, false, false, false, false, false, false, false] rfl rfl (any_of HT_.out (by kernel_rfl)) (fun _ _ _ h => h) (Or.inr ⟨by rfl, rfl⟩) ?_ ?_
                      rotate_left
                      · simp only [Act.put, List.setIfInBounds_toArray, List.set_cons_zero, List.set_cons_succ, i64_w, i32_w]
                        rfl
                      refine pure_ (i := 16) (N := some 37) (v := undef) (a' := ?_) #[true, true, true, true, true, true, true, true, true, true, true, true, true, true, true, true, true, false, false, false, false, false, false, false, false, false, false, false] rfl rfl (any_of HT_.out (by kernel_rfl)) (fun _ _ _ h => h) (Or.inr ⟨by rfl, rfl⟩) ?_ ?_
                      rotate_left
                      · simp only [Act.put, List.setIfInBounds_toArray, List.set_cons_zero, List.set_cons_succ, i64_w, i32_w]
                        rfl
                      refine pure_ (i := 17) (N := some 38) (v := ?_) (a' := ?_) #[true, true, true, true, true, true, true, true, true, true, true, true, true, true, true, true, true, true, false, false, false, false, false, false, false, false, false, false] rfl rfl (any_of HT_.out (by kernel_rfl)) (fun _ _ _ h => h) (Or.inl ⟨by rfl, ?_⟩) ?_ ?_
                      rotate_left
                      · intro w'
                        go_simp
                        with_reducible rfl
                      rotate_left
                      · simp only [Act.put, List.setIfInBounds_toArray, List.set_cons_zero, List.set_cons_succ, i64_w, i32_w]
                        rfl
                      refine pure_ (i := 18) (N := some 39) (v := ?_) (a' := ?_) #[true, true, true, true, true, true, true, true, true, true, true, true, true, true, true, true, true, true, true, false, false, false, false, false, false, false, false, false] rfl rfl (any_of HT_.out (by kernel_rfl)) (fun _ _ _ h => h) (Or.inl ⟨by rfl, ?_⟩) ?_ ?_
                      rotate_left
                      · intro w'
                        go_simp
                        with_reducible rfl
                      rotate_left
                      · simp only [Act.put, List.setIfInBounds_toArray, List.set_cons_zero, List.set_cons_succ, i64_w, i32_w]
                        rfl
                      refine pure_ (i := 19) (N := some 40) (v := ?_) (a' := ?_) #[true, true, true, true, true, true, true, true, true, true, true, true, true, true, true, true, true, true, true, true, false, false, false, false, false, false, false, false] rfl rfl (any_of HT_.out (by kernel_rfl)) (fun _ _ _ h => h) (Or.inl ⟨by rfl, ?_⟩) ?_ ?_
                      rotate_left
                      · intro w'
                        go_simp
                        with_reducible rfl
                      rotate_left
                      · simp only [Act.put, List.setIfInBounds_toArray, List.set_cons_zero, List.set_cons_succ, i64_w, i32_w]
                        rfl
                      refine pure_ (i := 20) (N := some 41) (v := ?_) (a' := ?_) #[true, true, true, true, true, true, true, true, true, true, true, true, true, true, true, true, true, true, true, true, true, false, false, false, false, false, false, false] rfl rfl (any_of HT_.out (by kernel_rfl)) (fun _ _ _ h => h) (Or.inl ⟨by rfl, ?_⟩) ?_ ?_
                      rotate_left
                      · intro w'
                        go_simp
                        with_reducible rfl
                      rotate_left
                      · simp only [Act.put, List.setIfInBounds_toArray, List.set_cons_zero, List.set_cons_succ, i64_w, i32_w]
                        rfl
                      refine take_ (i := 21) (N := some 42) (v := ?_) (a' := ?_) #[true, true, true, true, true, true, true, true, true, true, true, true, true, true, true, true, true, true, true, true, true, true, false, false, false, false, false, false] rfl rfl (take_ofW HT_.out HW_.out (by kernel_rfl)) (fun _ _ _ h => h) (Or.inl ⟨by rfl, ?_⟩) hHeld ?_ ?_
                      rotate_left
                      · rintro w' ⟨s0, s1, s2, s3⟩
                        go_simp
                        with_reducible rfl
                      rotate_left
                      · simp only [Act.put, List.setIfInBounds_toArray, List.set_cons_zero, List.set_cons_succ, i64_w, i32_w]
                        rfl
                      refine pure_ (i := 22) (N := some 43) (v := ?_) (a' := ?_) #[true, true, true, true, true, true, true, true, true, true, true, true, true, true, true, true, true, true, true, true, true, true, true, false, false, false, false, false] rfl rfl (any_of HT_.out (by kernel_rfl)) (fun _ _ _ h => h) (Or.inl ⟨by rfl, ?_⟩) ?_ ?_
                      rotate_left
                      · intro w'
                        go_simp
                        with_reducible rfl
                      rotate_left
                      · simp only [Act.put, List.setIfInBounds_toArray, List.set_cons_zero, List.set_cons_succ, i64_w, i32_w]
                        rfl
                      refine pure_ (i := 23) (N := some 44) (v := ?_) (a' := ?_) #[true, true, true, true, true, true, true, true, true, true, true, true, true, true, true, true, true, true, true, true, true, true, true, true, false, false, false, false] rfl rfl (any_of HT_.out (by kernel_rfl)) (fun _ _ _ h => h) (Or.inl ⟨by rfl, ?_⟩) ?_ ?_
                      rotate_left
                      · intro w'
                        go_simp
                        with_reducible rfl
                      rotate_left
                      · simp only [Act.put, List.setIfInBounds_toArray, List.set_cons_zero, List.set_cons_succ, i64_w, i32_w]
                        rfl
                      refine take_ (i := 24) (N := some 45) (v := ?_) (a' := ?_) #[true, true, true, true, true, true, true, true, true, true, true, true, true, true, true, true, true, true, true, true, true, true, true, true, true, false, false, false] rfl rfl (take_ofW HT_.out HW_.out (by kernel_rfl)) (fun _ _ _ h => h) (Or.inl ⟨by rfl, ?_⟩) hHeld ?_ ?_
                      rotate_left
                      · rintro w' ⟨s0, s1, s2, s3⟩
                        go_simp
                        with_reducible rfl
                      rotate_left
                      · simp only [Act.put, List.setIfInBounds_toArray, List.set_cons_zero, List.set_cons_succ, i64_w, i32_w]
                        rfl
                      refine pure_ (i := 25) (N := some 46) (v := ?_) (a' := ?_) #[true, true, true, true, true, true, true, true, true, true, true, true, true, true, true, true, true, true, true, true, true, true, true, true, true, true, false, false] rfl rfl (any_of HT_.out (by kernel_rfl)) (fun _ _ _ h => h) (Or.inl ⟨by rfl, ?_⟩) ?_ ?_
                      rotate_left
                      · intro w'
                        go_simp
                        with_reducible rfl
                      rotate_left
                      · simp only [Act.put, List.setIfInBounds_toArray, List.set_cons_zero, List.set_cons_succ, i64_w, i32_w]
                        rfl
                      refine pure_ (i := 26) (N := some 47) (v := ?_) (a' := ?_) #[true, true, true, true, true, true, true, true, true, true, true, true, true, true, true, true, true, true, true, true, true, true, true, true, true, true, true, false] rfl rfl (any_of HT_.out (by kernel_rfl)) (fun _ _ _ h => h) (Or.inl ⟨by rfl, ?_⟩) ?_ ?_
                      rotate_left
                      · intro w'
                        go_simp
                        with_reducible rfl
                      rotate_left
                      · simp only [Act.put, List.setIfInBounds_toArray, List.set_cons_zero, List.set_cons_succ, i64_w, i32_w]
                        rfl
                      refine pure_ (i := 27) (N := some 48) (v := ?_) (a' := ?_) #[true, true, true, true, true, true, true, true, true, true, true, true, true, true, true, true, true, true, true, true, true, true, true, true, true, true, true, true] rfl rfl (any_of HT_.out (by kernel_rfl)) (fun _ _ _ h => h) (Or.inl ⟨by rfl, ?_⟩) ?_ ?_
                      rotate_left
                      · intro w'
                        go_simp
                        with_reducible rfl
                      rotate_left
                      · simp only [Act.put, List.setIfInBounds_toArray, List.set_cons_zero, List.set_cons_succ, i64_w, i32_w]
                        rfl
                      refine done_ (done_of HT_.out (by kernel_rfl)) ?_
                      try go_wp2
                      go_meet
                      case rel => exact ⟨_, ((((rd_T79 l0 x16_1).f1) != 2)), (by first | rfl | (simp; done) | (simp [*]; done) | (simp; (generalize ByteArray.toList _ = q; cases q <;> rfl))), (by (try rw [← Nbq27.out]); exact H'), ⟨by have := HK1.out; first | omega | exact Nat.le_refl _⟩, ⟨by (try rw [← Nbq27.out]); (with_reducible repeat (first | refine blk_drewN ?_ _ | refine blk_drew ?_ | refine blk_alloc ?_ _)); exact BK156.out⟩, ⟨by repeat (first | (with_reducible first | exact HB.out | apply below_alloc | apply pw_below_drewN | apply below_drew1 | refine below_set ?_ GE156.out) | exact HB.out)⟩⟩
                    · replace c28 := Bool.eq_false_iff.mpr c28
                      subst c28
                      have H1 : (impl_TreeOk.j1 k1 l0 l0 (l0.length : Int) x16_1 false ((rd_T79 l0 x16_1).f0) ((rd_T79 l0 x16_1).f1) ((rd_T79 l0 x16_1).f2) false) = some r := by rw [if_neg (show ¬ (false = true) by decide)] at H; exact H
                      clear H
                      have H := H1
                      clear H1
                      have H' := Aside0.mk H
                      clear H
                      (try rw [← Nbq27.out])
                      try go_wp2
                      have n0_ : Aside0 (((((w7.setCell ⟨gb156, 0, none⟩ (.string ((rd_T79 l0 x16_1).f0))).setCell ⟨gb156, 1, none⟩ (.int .i64 ((rd_T79 l0 x16_1).f1))).setCell ⟨gb156, 2, none⟩ (.string ((rd_T79 l0 x16_1).f2))).setCell ⟨gb156, 3, none⟩ (.bool (false))).heap[gb156]? = some (.cells #[.string ((rd_T79 l0 x16_1).f0), .int .i64 ((rd_T79 l0 x16_1).f1), .string ((rd_T79 l0 x16_1).f2), .bool false] 79 (0, 0))) := ⟨by (with_reducible repeat (first | refine blk_drewN ?_ _ | refine blk_drew ?_ | refine blk_alloc ?_ _)); refine blk_put (cs := #[.string ((rd_T79 l0 x16_1).f0), .int .i64 ((rd_T79 l0 x16_1).f1), .string ((rd_T79 l0 x16_1).f2), .bool false]) ?_ 3 _ rfl; (with_reducible repeat (first | refine blk_drewN ?_ _ | refine blk_drew ?_ | refine blk_alloc ?_ _)); refine blk_put (cs := #[.string ((rd_T79 l0 x16_1).f0), .int .i64 ((rd_T79 l0 x16_1).f1), .string (⟨#[]⟩ : ByteArray), .bool false]) ?_ 2 _ rfl; (with_reducible repeat (first | refine blk_drewN ?_ _ | refine blk_drew ?_ | refine blk_alloc ?_ _)); refine blk_put (cs := #[.string ((rd_T79 l0 x16_1).f0), .int .i64 0, .string (⟨#[]⟩ : ByteArray), .bool false]) ?_ 1 _ rfl; (with_reducible repeat (first | refine blk_drewN ?_ _ | refine blk_drew ?_ | refine blk_alloc ?_ _)); refine blk_put (cs := #[.string (⟨#[]⟩ : ByteArray), .int .i64 0, .string (⟨#[]⟩ : ByteArray), .bool false]) ?_ 0 _ rfl; (with_reducible repeat (first | refine blk_drewN ?_ _ | refine blk_drew ?_ | refine blk_alloc ?_ _)); exact BK156.out⟩
                      have n1_ : Aside0 (Below wm.heap.size wm ((((w7.setCell ⟨gb156, 0, none⟩ (.string ((rd_T79 l0 x16_1).f0))).setCell ⟨gb156, 1, none⟩ (.int .i64 ((rd_T79 l0 x16_1).f1))).setCell ⟨gb156, 2, none⟩ (.string ((rd_T79 l0 x16_1).f2))).setCell ⟨gb156, 3, none⟩ (.bool (false)))) := ⟨by repeat (first | (with_reducible first | exact HB.out | apply below_alloc | apply pw_below_drewN | apply below_drew1 | refine below_set ?_ GE156.out) | exact HB.out)⟩
                      (try clear BK156)
                      (try clear HB)
                      generalize ((((w7.setCell ⟨gb156, 0, none⟩ (.string ((rd_T79 l0 x16_1).f0))).setCell ⟨gb156, 1, none⟩ (.int .i64 ((rd_T79 l0 x16_1).f1))).setCell ⟨gb156, 2, none⟩ (.string ((rd_T79 l0 x16_1).f2))).setCell ⟨gb156, 3, none⟩ (.bool (false))) = w32 at n0_ n1_ ⊢
                      have BK156 := n0_
                      have HB := n1_
                      clear n0_ n1_
                      have n0_ := Aside0.mk (blk_drew BK156.out)
                      have n1_ := Aside0.mk (below_drew1 HB.out)
                      clear BK156
                      clear HB
                      have BK156 := n0_
                      have HB := n1_
                      clear n0_ n1_
                      refine start_ (n := 28) (S := fun w' => w'.cell? ⟨gb156, 0, none⟩ = some (.string ((rd_T79 l0 x16_1).f0)) ∧ w'.cell? ⟨gb156, 1, none⟩ = some (.int .i64 ((rd_T79 l0 x16_1).f1)) ∧ w'.cell? ⟨gb156, 2, none⟩ = some (.string ((rd_T79 l0 x16_1).f2)) ∧ w'.cell? ⟨gb156, 3, none⟩ = some (.bool false)) (ds := []) #[false, false, false, false, false, false, false, false, false, false, false, false, false, false, false, false, false, false, false, false, false, false, false, false, false, false, false, false] (by kernel_rfl) rfl rfl ⟨(blk_cell BK156.out 0).trans rfl, (blk_cell BK156.out 1).trans rfl, (blk_cell BK156.out 2).trans rfl, (blk_cell BK156.out 3).trans rfl⟩ (fun hHeld => ?_); refine with_tabW impl_TreeOk.tab7 impl_TreeOk.bits7 (fun HT_ HW_ => ?_)
                      generalize w32.drew = w33 at BK156 HB hHeld ⊢
                      refine pure_ (i := 0) (N := some 21) (v := ?_) (a' := ?_) #[true, false, false, false, false, false, false, false, false, false, false, false, false, false, false, false, false, false, false, false, false, false, false, false, false, false, false, false] rfl rfl (any_of HT_.out (by kernel_rfl)) (fun _ _ _ h => h) (Or.inl ⟨by rfl, ?_⟩) ?_ ?_
                      rotate_left
                      · intro w'
                        go_simp
                        with_reducible rfl
                      rotate_left
                      · simp only [Act.put, List.setIfInBounds_toArray, List.set_cons_zero, List.set_cons_succ, i64_w, i32_w]
                        rfl
                      refine take_ (i := 1) (N := some 22) (v := ?_) (a' := ?_) #[true, true, false, false, false, false, false, false, false, false, false, false, false, false, false, false, false, false, false, false, false, false, false, false, false, false, false, false] rfl rfl (take_ofW HT_.out HW_.out (by kernel_rfl)) (fun _ _ _ h => h) (Or.inl ⟨by rfl, ?_⟩) hHeld ?_ ?_
                      rotate_left
                      · rintro w' ⟨s0, s1, s2, s3⟩
                        go_simp
                        with_reducible rfl
                      rotate_left
                      · simp only [Act.put, List.setIfInBounds_toArray, List.set_cons_zero, List.set_cons_succ, i64_w, i32_w]
                        rfl
                      refine one_ (i := 2) (N := some 23) #[true, true, true, false, false, false, false, false, false, false, false, false, false, false, false, false, false, false, false, false, false, false, false, false, false, false, false, false] rfl rfl (one_of HT_.out (by kernel_rfl)) (by decide) (fun K hK => ?_)
                      refine goes_ Tryd.func63 (by kernel_rfl) rfl #[.string ((rd_T79 l0 x16_1).f0)] (by rfl) rfl rfl (by (try simp only [List.map_toArray, List.map_cons, List.map_nil]); first | done | rfl | (simp only [List.length_drop, List.length_take]; rfl)) ?_
                      with_reducible refine (impl_pathOk.calls k1 ((rd_T79 l0 x16_1).f0) true _ A9.out).mono ?_
                      rintro e w34 ⟨rfl, hb⟩
                      refine ⟨_, rfl, ?_⟩
                      have n0_ := Aside0.mk (blk_below (g := gb156) (o := .cells #[.string ((rd_T79 l0 x16_1).f0), .int .i64 ((rd_T79 l0 x16_1).f1), .string ((rd_T79 l0 x16_1).f2), .bool false] 79 (0, 0)) (by (with_reducible repeat (first | refine blk_drewN ?_ _ | refine blk_drew ?_ | refine blk_alloc ?_ _)); exact BK156.out) hb)
                      have n1_ := Aside0.mk (below_step (by repeat (first | (with_reducible first | exact HB.out | apply below_alloc | apply pw_below_drewN | apply below_drew1 | refine below_set ?_ GE156.out) | exact HB.out)) hb)
                      clear BK156
                      clear HB
                      have BK156 := n0_
                      have HB := n1_
                      clear n0_ n1_
                      (try clear hb)
                      (try clear hb2)
                      (try clear hk)
                      (try clear hi)
                      refine hK.out _ _ ⟨(blk_cell BK156.out 0).trans rfl, (blk_cell BK156.out 1).trans rfl, (blk_cell BK156.out 2).trans rfl, (blk_cell BK156.out 3).trans rfl⟩ (fun hHeld => ?_)
                      clear hK K
                      refine norm_ (a' := ?_) ?_ ?_
                      rotate_left
                      · show Act.put _ (some 23) _ = _
                        simp only [Act.put, List.setIfInBounds_toArray, List.set_cons_zero, List.set_cons_succ, i64_w, i32_w]
                        rfl
                      refine pure_ (i := 3) (N := some 24) (v := ?_) (a' := ?_) #[true, true, true, true, false, false, false, false, false, false, false, false, false, false, false, false, false, false, false, false, false, false, false, false, false, false, false, false] rfl rfl (any_of HT_.out (by kernel_rfl)) (fun _ _ _ h => h) (Or.inl ⟨by rfl, ?_⟩) ?_ ?_
                      rotate_left
                      · intro w'
                        go_simp
                        with_reducible rfl
                      rotate_left
                      · simp only [Act.put, List.setIfInBounds_toArray, List.set_cons_zero, List.set_cons_succ, i64_w, i32_w]
                        rfl
                      refine pure_ (i := 4) (N := some 25) (v := ?_) (a' := ?_) #[true, true, true, true, true, false, false, false, false, false, false, false, false, false, false, false, false, false, false, false, false, false, false, false, false, false, false, false] rfl rfl (any_of HT_.out (by kernel_rfl)) (fun _ _ _ h => h) (Or.inl ⟨by rfl, ?_⟩) ?_ ?_
                      rotate_left
                      · intro w'
                        go_simp
                        with_reducible rfl
                      rotate_left
                      · simp only [Act.put, List.setIfInBounds_toArray, List.set_cons_zero, List.set_cons_succ, i64_w, i32_w]
                        rfl
                      refine pure_ (i := 5) (N := some 26) (v := ?_) (a' := ?_) #[true, true, true, true, true, true, false, false, false, false, false, false, false, false, false, false, false, false, false, false, false, false, false, false, false, false, false, false] rfl rfl (any_of HT_.out (by kernel_rfl)) (fun _ _ _ h => h) (Or.inl ⟨by rfl, ?_⟩) ?_ ?_
                      rotate_left
                      · intro w'
                        go_simp
                        with_reducible rfl
                      rotate_left
                      · simp only [Act.put, List.setIfInBounds_toArray, List.set_cons_zero, List.set_cons_succ, i64_w, i32_w]
                        rfl
                      refine pure_ (i := 6) (N := some 27) (v := ?_) (a' := ?_) #[true, true, true, true, true, true, true, false, false, false, false, false, false, false, false, false, false, false, false, false, false, false, false, false, false, false, false, false] rfl rfl (any_of HT_.out (by kernel_rfl)) (fun _ _ _ h => h) (Or.inl ⟨by rfl, ?_⟩) ?_ ?_
                      rotate_left
                      · intro w'
                        go_simp
                        with_reducible rfl
                      rotate_left
                      · simp only [Act.put, List.setIfInBounds_toArray, List.set_cons_zero, List.set_cons_succ, i64_w, i32_w]
                        rfl
                      refine pure_ (i := 7) (N := some 28) (v := ?_) (a' := ?_) #[true, true, true, true, true, true, true, true, false, false, false, false, false, false, false, false, false, false, false, false, false, false, false, false, false, false, false, false] rfl rfl (any_of HT_.out (by kernel_rfl)) (fun _ _ _ h => h) (Or.inl ⟨by rfl, ?_⟩) ?_ ?_
                      rotate_left
                      · intro w'
                        go_simp
                        with_reducible rfl
                      rotate_left
                      · simp only [Act.put, List.setIfInBounds_toArray, List.set_cons_zero, List.set_cons_succ, i64_w, i32_w]
                        rfl
                      refine pure_ (i := 8) (N := some 29) (v := undef) (a' := ?_) #[true, true, true, true, true, true, true, true, true, false, false, false, false, false, false, false, false, false, false, false, false, false, false, false, false, false, false, false] rfl rfl (any_of HT_.out (by kernel_rfl)) (fun _ _ _ h => h) (Or.inr ⟨by rfl, rfl⟩) ?_ ?_
                      rotate_left
                      · simp only [Act.put, List.setIfInBounds_toArray, List.set_cons_zero, List.set_cons_succ, i64_w, i32_w]
                        rfl
                      refine pure_ (i := 9) (N := some 30) (v := undef) (a' := ?_) #[true, true, true, true, true, true, true, true, true, true, false, false, false, false, false, false, false, false, false, false, false, false, false, false, false, false, false, false] rfl rfl (any_of HT_.out (by kernel_rfl)) (fun _ _ _ h => h) (Or.inr ⟨by rfl, rfl⟩) ?_ ?_
                      rotate_left
                      · simp only [Act.put, List.setIfInBounds_toArray, List.set_cons_zero, List.set_cons_succ, i64_w, i32_w]
                        rfl
                      refine pure_ (i := 10) (N := some 31) (v := undef) (a' := ?_) #[true, true, true, true, true, true, true, true, true, true, true, false, false, false, false, false, false, false, false, false, false, false, false, false, false, false, false, false] rfl rfl (any_of HT_.out (by kernel_rfl)) (fun _ _ _ h => h) (Or.inr ⟨by rfl, rfl⟩) ?_ ?_
                      rotate_left
                      · simp only [Act.put, List.setIfInBounds_toArray, List.set_cons_zero, List.set_cons_succ, i64_w, i32_w]
                        rfl
                      refine pure_ (i := 11) (N := some 32) (v := undef) (a' := ?_) #[true, true, true, true, true, true, true, true, true, true, true, true, false, false, false, false, false, false, false, false, false, false, false, false, false, false, false, false] rfl rfl (any_of HT_.out (by kernel_rfl)) (fun _ _ _ h => h) (Or.inr ⟨by rfl, rfl⟩) ?_ ?_
                      rotate_left
                      · simp only [Act.put, List.setIfInBounds_toArray, List.set_cons_zero, List.set_cons_succ, i64_w, i32_w]
                        rfl
                      refine pure_ (i := 12) (N := some 33) (v := undef) (a' := ?_) #[true, true, true, true, true, true, true, true, true, true, true, true, true, false, false, false, false, false, false, false, false, false, false, false, false, false, false, false] rfl rfl (any_of HT_.out (by kernel_rfl)) (fun _ _ _ h => h) (Or.inr ⟨by rfl, rfl⟩) ?_ ?_
                      rotate_left
                      · simp only [Act.put, List.setIfInBounds_toArray, List.set_cons_zero, List.set_cons_succ, i64_w, i32_w]
                        rfl
                      refine pure_ (i := 13) (N := some 34) (v := undef) (a' := ?_) #[true, true, true, true, true, true, true, true, true, true, true, true, true, true, false, false, false, false, false, false, false, false, false, false, false, false, false, false] rfl rfl (any_of HT_.out (by kernel_rfl)) (fun _ _ _ h => h) (Or.inr ⟨by rfl, rfl⟩) ?_ ?_
                      rotate_left
                      · simp only [Act.put, List.setIfInBounds_toArray, List.set_cons_zero, List.set_cons_succ, i64_w, i32_w]
                        rfl
                      refine pure_ (i := 14) (N := some 35) (v := undef) (a' := ?_) #[true, true, true, true, true, true, true, true, true, true, true, true, true, true, true, false, false, false, false, false, false, false, false, false, false, false, false, false] rfl rfl (any_of HT_.out (by kernel_rfl)) (fun _ _ _ h => h) (Or.inr ⟨by rfl, rfl⟩) ?_ ?_
                      rotate_left
                      · simp only [Act.put, List.setIfInBounds_toArray, List.set_cons_zero, List.set_cons_succ, i64_w, i32_w]
                        rfl
                      refine pure_ (i := 15) (N := some 36) (v := undef) (a' := ?_) #[true, true, true, true, true, true, true, true, true, true, true, true, true, true, true, true, false, false, false, false, false, false, false, false, false, false, false, false] rfl rfl (any_of HT_.out (by kernel_rfl)) (fun _ _ _ h => h) (Or.inr ⟨by rfl, rfl⟩) ?_ ?_
                      rotate_left
                      · simp only [Act.put, List.setIfInBounds_toArray, List.set_cons_zero, List.set_cons_succ, i64_w, i32_w]
                        rfl
                      refine pure_ (i := 16) (N := some 37) (v := undef) (a' := ?_) #[true, true, true, true, true, true, true, true, true, true, true, true, true, true, true, true, true, false, false, false, false, false, false, false, false, false, false, false] rfl rfl (any_of HT_.out (by kernel_rfl)) (fun _ _ _ h => h) (Or.inr ⟨by rfl, rfl⟩) ?_ ?_
                      rotate_left
                      · simp only [Act.put, List.setIfInBounds_toArray, List.set_cons_zero, List.set_cons_succ, i64_w, i32_w]
                        rfl
                      refine pure_ (i := 17) (N := some 38) (v := ?_) (a' := ?_) #[true, true, true, true, true, true, true, true, true, true, true, true, true, true, true, true, true, true, false, false, false, false, false, false, false, false, false, false] rfl rfl (any_of HT_.out (by kernel_rfl)) (fun _ _ _ h => h) (Or.inl ⟨by rfl, ?_⟩) ?_ ?_
                      rotate_left
                      · intro w'
                        go_simp
                        with_reducible rfl
                      rotate_left
                      · simp only [Act.put, List.setIfInBounds_toArray, List.set_cons_zero, List.set_cons_succ, i64_w, i32_w]
                        rfl
                      refine pure_ (i := 18) (N := some 39) (v := ?_) (a' := ?_) #[true, true, true, true, true, true, true, true, true, true, true, true, true, true, true, true, true, true, true, false, false, false, false, false, false, false, false, false] rfl rfl (any_of HT_.out (by kernel_rfl)) (fun _ _ _ h => h) (Or.inl ⟨by rfl, ?_⟩) ?_ ?_
                      rotate_left
                      · intro w'
                        go_simp
                        with_reducible rfl
                      rotate_left
                      · simp only [Act.put, List.setIfInBounds_toArray, List.set_cons_zero, List.set_cons_succ, i64_w, i32_w]
                        rfl
                      refine pure_ (i := 19) (N := some 40) (v := ?_) (a' := ?_) #[true, true, true, true, true, true, true, true, true, true, true, true, true, true, true, true, true, true, true, true, false, false, false, false, false, false, false, false] rfl rfl (any_of HT_.out (by kernel_rfl)) (fun _ _ _ h => h) (Or.inl ⟨by rfl, ?_⟩) ?_ ?_
                      rotate_left
                      · intro w'
                        go_simp
                        with_reducible rfl
                      rotate_left
                      · simp only [Act.put, List.setIfInBounds_toArray, List.set_cons_zero, List.set_cons_succ, i64_w, i32_w]
                        rfl
                      refine pure_ (i := 20) (N := some 41) (v := ?_) (a' := ?_) #[true, true, true, true, true, true, true, true, true, true, true, true, true, true, true, true, true, true, true, true, true, false, false, false, false, false, false, false] rfl rfl (any_of HT_.out (by kernel_rfl)) (fun _ _ _ h => h) (Or.inl ⟨by rfl, ?_⟩) ?_ ?_
                      rotate_left
                      · intro w'
                        go_simp
                        with_reducible rfl
                      rotate_left
                      · simp only [Act.put, List.setIfInBounds_toArray, List.set_cons_zero, List.set_cons_succ, i64_w, i32_w]
                        rfl
                      refine take_ (i := 21) (N := some 42) (v := ?_) (a' := ?_) #[true, true, true, true, true, true, true, true, true, true, true, true, true, true, true, true, true, true, true, true, true, true, false, false, false, false, false, false] rfl rfl (take_ofW HT_.out HW_.out (by kernel_rfl)) (fun _ _ _ h => h) (Or.inl ⟨by rfl, ?_⟩) hHeld ?_ ?_
                      rotate_left
                      · rintro w' ⟨s0, s1, s2, s3⟩
                        go_simp
                        with_reducible rfl
                      rotate_left
                      · simp only [Act.put, List.setIfInBounds_toArray, List.set_cons_zero, List.set_cons_succ, i64_w, i32_w]
                        rfl
                      refine pure_ (i := 22) (N := some 43) (v := ?_) (a' := ?_) #[true, true, true, true, true, true, true, true, true, true, true, true, true, true, true, true, true, true, true, true, true, true, true, false, false, false, false, false] rfl rfl (any_of HT_.out (by kernel_rfl)) (fun _ _ _ h => h) (Or.inl ⟨by rfl, ?_⟩) ?_ ?_
                      rotate_left
                      · intro w'
                        go_simp
                        with_reducible rfl
                      rotate_left
                      · simp only [Act.put, List.setIfInBounds_toArray, List.set_cons_zero, List.set_cons_succ, i64_w, i32_w]
                        rfl
                      refine pure_ (i := 23) (N := some 44) (v := undef) (a' := ?_) #[true, true, true, true, true, true, true, true, true, true, true, true, true, true, true, true, true, true, true, true, true, true, true, true, false, false, false, false] rfl rfl (any_of HT_.out (by kernel_rfl)) (fun _ _ _ h => h) (Or.inr ⟨by rfl, rfl⟩) ?_ ?_
                      rotate_left
                      · simp only [Act.put, List.setIfInBounds_toArray, List.set_cons_zero, List.set_cons_succ, i64_w, i32_w]
                        rfl
                      refine pure_ (i := 24) (N := some 45) (v := undef) (a' := ?_) #[true, true, true, true, true, true, true, true, true, true, true, true, true, true, true, true, true, true, true, true, true, true, true, true, true, false, false, false] rfl rfl (any_of HT_.out (by kernel_rfl)) (fun _ _ _ h => h) (Or.inr ⟨by rfl, rfl⟩) ?_ ?_
                      rotate_left
                      · simp only [Act.put, List.setIfInBounds_toArray, List.set_cons_zero, List.set_cons_succ, i64_w, i32_w]
                        rfl
                      refine pure_ (i := 25) (N := some 46) (v := undef) (a' := ?_) #[true, true, true, true, true, true, true, true, true, true, true, true, true, true, true, true, true, true, true, true, true, true, true, true, true, true, false, false] rfl rfl (any_of HT_.out (by kernel_rfl)) (fun _ _ _ h => h) (Or.inr ⟨by rfl, rfl⟩) ?_ ?_
                      rotate_left
                      · simp only [Act.put, List.setIfInBounds_toArray, List.set_cons_zero, List.set_cons_succ, i64_w, i32_w]
                        rfl
                      refine pure_ (i := 26) (N := some 47) (v := ?_) (a' := ?_) #[true, true, true, true, true, true, true, true, true, true, true, true, true, true, true, true, true, true, true, true, true, true, true, true, true, true, true, false] rfl rfl (any_of HT_.out (by kernel_rfl)) (fun _ _ _ h => h) (Or.inl ⟨by rfl, ?_⟩) ?_ ?_
                      rotate_left
                      · intro w'
                        go_simp
                        with_reducible rfl
                      rotate_left
                      · simp only [Act.put, List.setIfInBounds_toArray, List.set_cons_zero, List.set_cons_succ, i64_w, i32_w]
                        rfl
                      refine pure_ (i := 27) (N := some 48) (v := ?_) (a' := ?_) #[true, true, true, true, true, true, true, true, true, true, true, true, true, true, true, true, true, true, true, true, true, true, true, true, true, true, true, true] rfl rfl (any_of HT_.out (by kernel_rfl)) (fun _ _ _ h => h) (Or.inl ⟨by rfl, ?_⟩) ?_ ?_
                      rotate_left
                      · intro w'
                        go_simp
                        with_reducible rfl
                      rotate_left
                      · simp only [Act.put, List.setIfInBounds_toArray, List.set_cons_zero, List.set_cons_succ, i64_w, i32_w]
                        rfl
                      refine done_ (done_of HT_.out (by kernel_rfl)) ?_
                      try go_wp2
                      go_meet
                      case rel => exact ⟨_, (false), (by first | rfl | (simp; done) | (simp [*]; done) | (simp; (generalize ByteArray.toList _ = q; cases q <;> rfl))), (by (try rw [← Nbq27.out]); exact H'), ⟨by have := HK1.out; first | omega | exact Nat.le_refl _⟩, ⟨by (try rw [← Nbq27.out]); (with_reducible repeat (first | refine blk_drewN ?_ _ | refine blk_drew ?_ | refine blk_alloc ?_ _)); exact BK156.out⟩, ⟨by repeat (first | (with_reducible first | exact HB.out | apply below_alloc | apply pw_below_drewN | apply below_drew1 | refine below_set ?_ GE156.out) | exact HB.out)⟩⟩
                · replace c10 := Bool.eq_false_iff.mpr c10
                  subst c10
                  have H1 : (impl_TreeOk.j1 k1 l0 l0 (l0.length : Int) x16_1 true ((rd_T79 l0 x16_1).f0) ((rd_T79 l0 x16_1).f1) ((rd_T79 l0 x16_1).f2) ((rd_T79 l0 x16_1).f3)) = some r := by rw [if_neg (show ¬ (false = true) by decide)] at H; exact H
                  clear H
                  have H := H1
                  clear H1
                  have H' := Aside0.mk H
                  clear H
                  try go_wp2
                  have n0_ : Aside0 (((((w7.setCell ⟨gb156, 0, none⟩ (.string ((rd_T79 l0 x16_1).f0))).setCell ⟨gb156, 1, none⟩ (.int .i64 ((rd_T79 l0 x16_1).f1))).setCell ⟨gb156, 2, none⟩ (.string ((rd_T79 l0 x16_1).f2))).setCell ⟨gb156, 3, none⟩ (.bool ((rd_T79 l0 x16_1).f3))).heap[gb156]? = some (.cells #[.string ((rd_T79 l0 x16_1).f0), .int .i64 ((rd_T79 l0 x16_1).f1), .string ((rd_T79 l0 x16_1).f2), .bool ((rd_T79 l0 x16_1).f3)] 79 (0, 0))) := ⟨by (with_reducible repeat (first | refine blk_drewN ?_ _ | refine blk_drew ?_ | refine blk_alloc ?_ _)); refine blk_put (cs := #[.string ((rd_T79 l0 x16_1).f0), .int .i64 ((rd_T79 l0 x16_1).f1), .string ((rd_T79 l0 x16_1).f2), .bool false]) ?_ 3 _ rfl; (with_reducible repeat (first | refine blk_drewN ?_ _ | refine blk_drew ?_ | refine blk_alloc ?_ _)); refine blk_put (cs := #[.string ((rd_T79 l0 x16_1).f0), .int .i64 ((rd_T79 l0 x16_1).f1), .string (⟨#[]⟩ : ByteArray), .bool false]) ?_ 2 _ rfl; (with_reducible repeat (first | refine blk_drewN ?_ _ | refine blk_drew ?_ | refine blk_alloc ?_ _)); refine blk_put (cs := #[.string ((rd_T79 l0 x16_1).f0), .int .i64 0, .string (⟨#[]⟩ : ByteArray), .bool false]) ?_ 1 _ rfl; (with_reducible repeat (first | refine blk_drewN ?_ _ | refine blk_drew ?_ | refine blk_alloc ?_ _)); refine blk_put (cs := #[.string (⟨#[]⟩ : ByteArray), .int .i64 0, .string (⟨#[]⟩ : ByteArray), .bool false]) ?_ 0 _ rfl; (with_reducible repeat (first | refine blk_drewN ?_ _ | refine blk_drew ?_ | refine blk_alloc ?_ _)); exact BK156.out⟩
                  have n1_ : Aside0 (Below wm.heap.size wm ((((w7.setCell ⟨gb156, 0, none⟩ (.string ((rd_T79 l0 x16_1).f0))).setCell ⟨gb156, 1, none⟩ (.int .i64 ((rd_T79 l0 x16_1).f1))).setCell ⟨gb156, 2, none⟩ (.string ((rd_T79 l0 x16_1).f2))).setCell ⟨gb156, 3, none⟩ (.bool ((rd_T79 l0 x16_1).f3)))) := ⟨by repeat (first | (with_reducible first | exact HB.out | apply below_alloc | apply pw_below_drewN | apply below_drew1 | refine below_set ?_ GE156.out) | exact HB.out)⟩
                  (try clear BK156)
                  (try clear HB)
                  generalize ((((w7.setCell ⟨gb156, 0, none⟩ (.string ((rd_T79 l0 x16_1).f0))).setCell ⟨gb156, 1, none⟩ (.int .i64 ((rd_T79 l0 x16_1).f1))).setCell ⟨gb156, 2, none⟩ (.string ((rd_T79 l0 x16_1).f2))).setCell ⟨gb156, 3, none⟩ (.bool ((rd_T79 l0 x16_1).f3))) = w35 at n0_ n1_ ⊢
                  have BK156 := n0_
                  have HB := n1_
                  clear n0_ n1_
                  have n0_ := Aside0.mk (blk_drew BK156.out)
                  have n1_ := Aside0.mk (below_drew1 HB.out)
                  clear BK156
                  clear HB
                  have BK156 := n0_
                  have HB := n1_
                  clear n0_ n1_
                  refine start_ (n := 28) (S := fun w' => w'.cell? ⟨gb156, 0, none⟩ = some (.string ((rd_T79 l0 x16_1).f0)) ∧ w'.cell? ⟨gb156, 1, none⟩ = some (.int .i64 ((rd_T79 l0 x16_1).f1)) ∧ w'.cell? ⟨gb156, 2, none⟩ = some (.string ((rd_T79 l0 x16_1).f2)) ∧ w'.cell? ⟨gb156, 3, none⟩ = some (.bool ((rd_T79 l0 x16_1).f3))) (ds := []) #[false, false, false, false, false, false, false, false, false, false, false, false, false, false, false, false, false, false, false, false, false, false, false, false, false, false, false, false] (by kernel_rfl) rfl rfl ⟨(blk_cell BK156.out 0).trans rfl, (blk_cell BK156.out 1).trans rfl, (blk_cell BK156.out 2).trans rfl, (blk_cell BK156.out 3).trans rfl⟩ (fun hHeld => ?_); refine with_tabW impl_TreeOk.tab7 impl_TreeOk.bits7 (fun HT_ HW_ => ?_)
                  generalize w35.drew = w36 at BK156 HB hHeld ⊢
                  refine pure_ (i := 0) (N := some 21) (v := ?_) (a' := ?_) #[true, false, false, false, false, false, false, false, false, false, false, false, false, false, false, false, false, false, false, false, false, false, false, false, false, false, false, false] rfl rfl (any_of HT_.out (by kernel_rfl)) (fun _ _ _ h => h) (Or.inl ⟨by rfl, ?_⟩) ?_ ?_
                  rotate_left
                  · intro w'
                    go_simp
                    with_reducible rfl
                  rotate_left
                  · simp only [Act.put, List.setIfInBounds_toArray, List.set_cons_zero, List.set_cons_succ, i64_w, i32_w]
                    rfl
                  refine take_ (i := 1) (N := some 22) (v := ?_) (a' := ?_) #[true, true, false, false, false, false, false, false, false, false, false, false, false, false, false, false, false, false, false, false, false, false, false, false, false, false, false, false] rfl rfl (take_ofW HT_.out HW_.out (by kernel_rfl)) (fun _ _ _ h => h) (Or.inl ⟨by rfl, ?_⟩) hHeld ?_ ?_
                  rotate_left
                  · rintro w' ⟨s0, s1, s2, s3⟩
                    go_simp
                    with_reducible rfl
                  rotate_left
                  · simp only [Act.put, List.setIfInBounds_toArray, List.set_cons_zero, List.set_cons_succ, i64_w, i32_w]
                    rfl
                  refine one_ (i := 2) (N := some 23) #[true, true, true, false, false, false, false, false, false, false, false, false, false, false, false, false, false, false, false, false, false, false, false, false, false, false, false, false] rfl rfl (one_of HT_.out (by kernel_rfl)) (by decide) (fun K hK => ?_)
                  refine goes_ Tryd.func63 (by kernel_rfl) rfl #[.string ((rd_T79 l0 x16_1).f0)] (by rfl) rfl rfl (by (try simp only [List.map_toArray, List.map_cons, List.map_nil]); first | done | rfl | (simp only [List.length_drop, List.length_take]; rfl)) ?_
                  with_reducible refine (impl_pathOk.calls k1 ((rd_T79 l0 x16_1).f0) false _ A9.out).mono ?_
                  rintro e w37 ⟨rfl, hb⟩
                  refine ⟨_, rfl, ?_⟩
                  have n0_ := Aside0.mk (blk_below (g := gb156) (o := .cells #[.string ((rd_T79 l0 x16_1).f0), .int .i64 ((rd_T79 l0 x16_1).f1), .string ((rd_T79 l0 x16_1).f2), .bool ((rd_T79 l0 x16_1).f3)] 79 (0, 0)) (by (with_reducible repeat (first | refine blk_drewN ?_ _ | refine blk_drew ?_ | refine blk_alloc ?_ _)); exact BK156.out) hb)
                  have n1_ := Aside0.mk (below_step (by repeat (first | (with_reducible first | exact HB.out | apply below_alloc | apply pw_below_drewN | apply below_drew1 | refine below_set ?_ GE156.out) | exact HB.out)) hb)
                  clear BK156
                  clear HB
                  have BK156 := n0_
                  have HB := n1_
                  clear n0_ n1_
                  (try clear hb)
                  (try clear hb2)
                  (try clear hk)
                  (try clear hi)
                  refine hK.out _ _ ⟨(blk_cell BK156.out 0).trans rfl, (blk_cell BK156.out 1).trans rfl, (blk_cell BK156.out 2).trans rfl, (blk_cell BK156.out 3).trans rfl⟩ (fun hHeld => ?_)
                  clear hK K
                  refine norm_ (a' := ?_) ?_ ?_
                  rotate_left
                  · show Act.put _ (some 23) _ = _
                    simp only [Act.put, List.setIfInBounds_toArray, List.set_cons_zero, List.set_cons_succ, i64_w, i32_w]
                    rfl
                  refine pure_ (i := 3) (N := some 24) (v := ?_) (a' := ?_) #[true, true, true, true, false, false, false, false, false, false, false, false, false, false, false, false, false, false, false, false, false, false, false, false, false, false, false, false] rfl rfl (any_of HT_.out (by kernel_rfl)) (fun _ _ _ h => h) (Or.inl ⟨by rfl, ?_⟩) ?_ ?_
                  rotate_left
                  · intro w'
                    go_simp
                    with_reducible rfl
                  rotate_left
                  · simp only [Act.put, List.setIfInBounds_toArray, List.set_cons_zero, List.set_cons_succ, i64_w, i32_w]
                    rfl
                  refine pure_ (i := 4) (N := some 25) (v := ?_) (a' := ?_) #[true, true, true, true, true, false, false, false, false, false, false, false, false, false, false, false, false, false, false, false, false, false, false, false, false, false, false, false] rfl rfl (any_of HT_.out (by kernel_rfl)) (fun _ _ _ h => h) (Or.inl ⟨by rfl, ?_⟩) ?_ ?_
                  rotate_left
                  · intro w'
                    go_simp
                    with_reducible rfl
                  rotate_left
                  · simp only [Act.put, List.setIfInBounds_toArray, List.set_cons_zero, List.set_cons_succ, i64_w, i32_w]
                    rfl
                  refine pure_ (i := 5) (N := some 26) (v := undef) (a' := ?_) #[true, true, true, true, true, true, false, false, false, false, false, false, false, false, false, false, false, false, false, false, false, false, false, false, false, false, false, false] rfl rfl (any_of HT_.out (by kernel_rfl)) (fun _ _ _ h => h) (Or.inr ⟨by rfl, rfl⟩) ?_ ?_
                  rotate_left
                  · simp only [Act.put, List.setIfInBounds_toArray, List.set_cons_zero, List.set_cons_succ, i64_w, i32_w]
                    rfl
                  refine pure_ (i := 6) (N := some 27) (v := undef) (a' := ?_) #[true, true, true, true, true, true, true, false, false, false, false, false, false, false, false, false, false, false, false, false, false, false, false, false, false, false, false, false] rfl rfl (any_of HT_.out (by kernel_rfl)) (fun _ _ _ h => h) (Or.inr ⟨by rfl, rfl⟩) ?_ ?_
                  rotate_left
                  · simp only [Act.put, List.setIfInBounds_toArray, List.set_cons_zero, List.set_cons_succ, i64_w, i32_w]
                    rfl
                  refine pure_ (i := 7) (N := some 28) (v := undef) (a' := ?_) #[true, true, true, true, true, true, true, true, false, false, false, false, false, false, false, false, false, false, false, false, false, false, false, false, false, false, false, false] rfl rfl (any_of HT_.out (by kernel_rfl)) (fun _ _ _ h => h) (Or.inr ⟨by rfl, rfl⟩) ?_ ?_
                  rotate_left
                  · simp only [Act.put, List.setIfInBounds_toArray, List.set_cons_zero, List.set_cons_succ, i64_w, i32_w]
                    rfl
                  refine pure_ (i := 8) (N := some 29) (v := undef) (a' := ?_) #[true, true, true, true, true, true, true, true, true, false, false, false, false, false, false, false, false, false, false, false, false, false, false, false, false, false, false, false] rfl rfl (any_of HT_.out (by kernel_rfl)) (fun _ _ _ h => h) (Or.inr ⟨by rfl, rfl⟩) ?_ ?_
                  rotate_left
                  · simp only [Act.put, List.setIfInBounds_toArray, List.set_cons_zero, List.set_cons_succ, i64_w, i32_w]
                    rfl
                  refine pure_ (i := 9) (N := some 30) (v := undef) (a' := ?_) #[true, true, true, true, true, true, true, true, true, true, false, false, false, false, false, false, false, false, false, false, false, false, false, false, false, false, false, false] rfl rfl (any_of HT_.out (by kernel_rfl)) (fun _ _ _ h => h) (Or.inr ⟨by rfl, rfl⟩) ?_ ?_
                  rotate_left
                  · simp only [Act.put, List.setIfInBounds_toArray, List.set_cons_zero, List.set_cons_succ, i64_w, i32_w]
                    rfl
                  refine pure_ (i := 10) (N := some 31) (v := undef) (a' := ?_) #[true, true, true, true, true, true, true, true, true, true, true, false, false, false, false, false, false, false, false, false, false, false, false, false, false, false, false, false] rfl rfl (any_of HT_.out (by kernel_rfl)) (fun _ _ _ h => h) (Or.inr ⟨by rfl, rfl⟩) ?_ ?_
                  rotate_left
                  · simp only [Act.put, List.setIfInBounds_toArray, List.set_cons_zero, List.set_cons_succ, i64_w, i32_w]
                    rfl
                  refine pure_ (i := 11) (N := some 32) (v := undef) (a' := ?_) #[true, true, true, true, true, true, true, true, true, true, true, true, false, false, false, false, false, false, false, false, false, false, false, false, false, false, false, false] rfl rfl (any_of HT_.out (by kernel_rfl)) (fun _ _ _ h => h) (Or.inr ⟨by rfl, rfl⟩) ?_ ?_
                  rotate_left
                  · simp only [Act.put, List.setIfInBounds_toArray, List.set_cons_zero, List.set_cons_succ, i64_w, i32_w]
                    rfl
                  refine pure_ (i := 12) (N := some 33) (v := undef) (a' := ?_) #[true, true, true, true, true, true, true, true, true, true, true, true, true, false, false, false, false, false, false, false, false, false, false, false, false, false, false, false] rfl rfl (any_of HT_.out (by kernel_rfl)) (fun _ _ _ h => h) (Or.inr ⟨by rfl, rfl⟩) ?_ ?_
                  rotate_left
                  · simp only [Act.put, List.setIfInBounds_toArray, List.set_cons_zero, List.set_cons_succ, i64_w, i32_w]
                    rfl
                  refine pure_ (i := 13) (N := some 34) (v := undef) (a' := ?_) #[true, true, true, true, true, true, true, true, true, true, true, true, true, true, false, false, false, false, false, false, false, false, false, false, false, false, false, false] rfl rfl (any_of HT_.out (by kernel_rfl)) (fun _ _ _ h => h) (Or.inr ⟨by rfl, rfl⟩) ?_ ?_
                  rotate_left
                  · simp only [Act.put, List.setIfInBounds_toArray, List.set_cons_zero, List.set_cons_succ, i64_w, i32_w]
                    rfl
                  refine pure_ (i := 14) (N := some 35) (v := undef) (a' := ?_) #[true, true, true, true, true, true, true, true, true, true, true, true, true, true, true, false, false, false, false, false, false, false, false, false, false, false, false, false] rfl rfl (any_of HT_.out (by kernel_rfl)) (fun _ _ _ h => h) (Or.inr ⟨by rfl, rfl⟩) ?_ ?_
                  rotate_left
                  · simp only [Act.put, List.setIfInBounds_toArray, List.set_cons_zero, List.set_cons_succ, i64_w, i32_w]
                    rfl
                  refine pure_ (i := 15) (N := some 36) (v := undef) (a' := ?_) #[true, true, true, true, true, true, true, true, true, true, true, true, true, true, true, true, false, false, false, false, false, false, false, false, false, false, false, false] rfl rfl (any_of HT_.out (by kernel_rfl)) (fun _ _ _ h => h) (Or.inr ⟨by rfl, rfl⟩) ?_ ?_
                  rotate_left
                  · simp only [Act.put, List.setIfInBounds_toArray, List.set_cons_zero, List.set_cons_succ, i64_w, i32_w]
                    rfl
                  refine pure_ (i := 16) (N := some 37) (v := undef) (a' := ?_) #[true, true, true, true, true, true, true, true, true, true, true, true, true, true, true, true, true, false, false, false, false, false, false, false, false, false, false, false] rfl rfl (any_of HT_.out (by kernel_rfl)) (fun _ _ _ h => h) (Or.inr ⟨by rfl, rfl⟩) ?_ ?_
                  rotate_left
                  · simp only [Act.put, List.setIfInBounds_toArray, List.set_cons_zero, List.set_cons_succ, i64_w, i32_w]
                    rfl
                  refine pure_ (i := 17) (N := some 38) (v := undef) (a' := ?_) #[true, true, true, true, true, true, true, true, true, true, true, true, true, true, true, true, true, true, false, false, false, false, false, false, false, false, false, false] rfl rfl (any_of HT_.out (by kernel_rfl)) (fun _ _ _ h => h) (Or.inr ⟨by rfl, rfl⟩) ?_ ?_
                  rotate_left
                  · simp only [Act.put, List.setIfInBounds_toArray, List.set_cons_zero, List.set_cons_succ, i64_w, i32_w]
                    rfl
                  refine pure_ (i := 18) (N := some 39) (v := ?_) (a' := ?_) #[true, true, true, true, true, true, true, true, true, true, true, true, true, true, true, true, true, true, true, false, false, false, false, false, false, false, false, false] rfl rfl (any_of HT_.out (by kernel_rfl)) (fun _ _ _ h => h) (Or.inl ⟨by rfl, ?_⟩) ?_ ?_
                  rotate_left
                  · intro w'
                    go_simp
                    with_reducible rfl
                  rotate_left
                  · simp only [Act.put, List.setIfInBounds_toArray, List.set_cons_zero, List.set_cons_succ, i64_w, i32_w]
                    rfl
                  refine pure_ (i := 19) (N := some 40) (v := ?_) (a' := ?_) #[true, true, true, true, true, true, true, true, true, true, true, true, true, true, true, true, true, true, true, true, false, false, false, false, false, false, false, false] rfl rfl (any_of HT_.out (by kernel_rfl)) (fun _ _ _ h => h) (Or.inl ⟨by rfl, ?_⟩) ?_ ?_
                  rotate_left
                  · intro w'
                    go_simp
                    with_reducible rfl
                  rotate_left
                  · simp only [Act.put, List.setIfInBounds_toArray, List.set_cons_zero, List.set_cons_succ, i64_w, i32_w]
                    rfl
                  refine pure_ (i := 20) (N := some 41) (v := undef) (a' := ?_) #[true, true, true, true, true, true, true, true, true, true, true, true, true, true, true, true, true, true, true, true, true, false, false, false, false, false, false, false] rfl rfl (any_of HT_.out (by kernel_rfl)) (fun _ _ _ h => h) (Or.inr ⟨by rfl, rfl⟩) ?_ ?_
                  rotate_left
                  · simp only [Act.put, List.setIfInBounds_toArray, List.set_cons_zero, List.set_cons_succ, i64_w, i32_w]
                    rfl
                  refine pure_ (i := 21) (N := some 42) (v := undef) (a' := ?_) #[true, true, true, true, true, true, true, true, true, true, true, true, true, true, true, true, true, true, true, true, true, true, false, false, false, false, false, false] rfl rfl (any_of HT_.out (by kernel_rfl)) (fun _ _ _ h => h) (Or.inr ⟨by rfl, rfl⟩) ?_ ?_
                  rotate_left
                  · simp only [Act.put, List.setIfInBounds_toArray, List.set_cons_zero, List.set_cons_succ, i64_w, i32_w]
                    rfl
                  refine pure_ (i := 22) (N := some 43) (v := undef) (a' := ?_) #[true, true, true, true, true, true, true, true, true, true, true, true, true, true, true, true, true, true, true, true, true, true, true, false, false, false, false, false] rfl rfl (any_of HT_.out (by kernel_rfl)) (fun _ _ _ h => h) (Or.inr ⟨by rfl, rfl⟩) ?_ ?_
                  rotate_left
                  · simp only [Act.put, List.setIfInBounds_toArray, List.set_cons_zero, List.set_cons_succ, i64_w, i32_w]
                    rfl
                  refine pure_ (i := 23) (N := some 44) (v := undef) (a' := ?_) #[true, true, true, true, true, true, true, true, true, true, true, true, true, true, true, true, true, true, true, true, true, true, true, true, false, false, false, false] rfl rfl (any_of HT_.out (by kernel_rfl)) (fun _ _ _ h => h) (Or.inr ⟨by rfl, rfl⟩) ?_ ?_
                  rotate_left
                  · simp only [Act.put, List.setIfInBounds_toArray, List.set_cons_zero, List.set_cons_succ, i64_w, i32_w]
                    rfl
                  refine pure_ (i := 24) (N := some 45) (v := undef) (a' := ?_) #[true, true, true, true, true, true, true, true, true, true, true, true, true, true, true, true, true, true, true, true, true, true, true, true, true, false, false, false] rfl rfl (any_of HT_.out (by kernel_rfl)) (fun _ _ _ h => h) (Or.inr ⟨by rfl, rfl⟩) ?_ ?_
                  rotate_left
                  · simp only [Act.put, List.setIfInBounds_toArray, List.set_cons_zero, List.set_cons_succ, i64_w, i32_w]
                    rfl
                  refine pure_ (i := 25) (N := some 46) (v := undef) (a' := ?_) #[true, true, true, true, true, true, true, true, true, true, true, true, true, true, true, true, true, true, true, true, true, true, true, true, true, true, false, false] rfl rfl (any_of HT_.out (by kernel_rfl)) (fun _ _ _ h => h) (Or.inr ⟨by rfl, rfl⟩) ?_ ?_
                  rotate_left
                  · simp only [Act.put, List.setIfInBounds_toArray, List.set_cons_zero, List.set_cons_succ, i64_w, i32_w]
                    rfl
                  refine pure_ (i := 26) (N := some 47) (v := undef) (a' := ?_) #[true, true, true, true, true, true, true, true, true, true, true, true, true, true, true, true, true, true, true, true, true, true, true, true, true, true, true, false] rfl rfl (any_of HT_.out (by kernel_rfl)) (fun _ _ _ h => h) (Or.inr ⟨by rfl, rfl⟩) ?_ ?_
                  rotate_left
                  · simp only [Act.put, List.setIfInBounds_toArray, List.set_cons_zero, List.set_cons_succ, i64_w, i32_w]
                    rfl
                  refine pure_ (i := 27) (N := some 48) (v := ?_) (a' := ?_) #[true, true, true, true, true, true, true, true, true, true, true, true, true, true, true, true, true, true, true, true, true, true, true, true, true, true, true, true] rfl rfl (any_of HT_.out (by kernel_rfl)) (fun _ _ _ h => h) (Or.inl ⟨by rfl, ?_⟩) ?_ ?_
                  rotate_left
                  · intro w'
                    go_simp
                    with_reducible rfl
                  rotate_left
                  · simp only [Act.put, List.setIfInBounds_toArray, List.set_cons_zero, List.set_cons_succ, i64_w, i32_w]
                    rfl
                  refine done_ (done_of HT_.out (by kernel_rfl)) ?_
                  try go_wp2
                  go_meet
                  case rel => exact ⟨_, (true), (by first | rfl | (simp; done) | (simp [*]; done) | (simp; (generalize ByteArray.toList _ = q; cases q <;> rfl))), (by first | exact H' | (rw [hji12]; exact H')), ⟨by have := HK1.out; first | omega | exact Nat.le_refl _⟩, ⟨by (with_reducible repeat (first | refine blk_drewN ?_ _ | refine blk_drew ?_ | refine blk_alloc ?_ _)); exact BK156.out⟩, ⟨by repeat (first | (with_reducible first | exact HB.out | apply below_alloc | apply pw_below_drewN | apply below_drew1 | refine below_set ?_ GE156.out) | exact HB.out)⟩⟩
              case rest =>
                clear HC6
                try clear c1
                try clear c2
                try clear p2
                try clear c6
                try clear c10
                try clear c28
                obtain ⟨kq, x48_5, rfl, HA, HJ5, BK156, HB⟩ := hcut
                cases kq with
                | zero => exact absurd HA.out (by simp [impl_TreeOk.j1])
                | succ kj5 =>
                  have H := HA.out
                  clear HA
                  simp only [impl_TreeOk.j1] at H
                  by_cases c38 : x48_5 = true
                  · subst c38
                    have H1 : (some false) = some r := by rw [if_pos rfl] at H; exact H
                    clear H
                    have H := H1
                    clear H1
                    obtain rfl := Option.some.inj H
                    go_wp2
                    go_ret
                    exact ⟨by first | rfl | (simp [errW_none, errW_some] <;> rfl) | (simp [*, errW_none, errW_some] <;> rfl), below_on HM.out.1 (by repeat (first | (with_reducible first | exact HB.out | apply below_alloc | apply pw_below_drewN | apply below_drew1 | refine below_set ?_ GE156.out) | exact HB.out))⟩
                  · replace c38 := Bool.eq_false_iff.mpr c38
                    subst c38
                    have H1 : (if ((rd_T79 l0 x16_1).f1) = 1 then (if ((rd_T79 l0 x16_1).f2).toList = ([] : List UInt8) then (impl_TreeOk.l0 kj5 l0 l0 (l0.length : Int) (wrap64 (x16_1 + 1))) else (some false)) else (if ((rd_T79 l0 x16_1).f1) = 2 then (if (((rd_T79 l0 x16_1).f2).size : Int) > 20000 then (some false) else (impl_TreeOk.l0 kj5 l0 l0 (l0.length : Int) (wrap64 (x16_1 + 1)))) else (if ((rd_T79 l0 x16_1).f1) = 3 then (if (((rd_T79 l0 x16_1).f2).size : Int) < 1 then (some false) else (if (((rd_T79 l0 x16_1).f2).size : Int) > 20000 then (some false) else (impl_TreeOk.l0 kj5 l0 l0 (l0.length : Int) (wrap64 (x16_1 + 1))))) else (some false)))) = some r := by rw [if_neg (show ¬ (false = true) by decide)] at H; exact H
                    clear H
                    have H := H1
                    clear H1
                    by_cases c39 : ((rd_T79 l0 x16_1).f1) = 1
                    · rw [if_pos c39] at H
                      have c39b0 : (((rd_T79 l0 x16_1).f1) == 1) = true := beq_iff_eq.mpr c39
                      have c39b1 : (((rd_T79 l0 x16_1).f1) != 1) = false := bne_eq_false_iff_eq.mpr c39
                      clear c39
                      by_cases c40 : ((rd_T79 l0 x16_1).f2).toList = ([] : List UInt8)
                      · rw [if_pos c40] at H
                        have c40b0 : (((rd_T79 l0 x16_1).f2).toList == ([] : List UInt8)) = true := beq_iff_eq.mpr c40
                        have c40E : ((rd_T79 l0 x16_1).f2).toList.isEmpty = true := by have h_ := c40b0; revert h_; cases ((rd_T79 l0 x16_1).f2).toList <;> intro h_ <;> first | rfl | (simp at h_)
                        have c40b1 : (((rd_T79 l0 x16_1).f2).toList != ([] : List UInt8)) = false := bne_eq_false_iff_eq.mpr c40
                        clear c40
                        have H' := Aside0.mk H
                        clear H
                        have hcz41_0 : wc.cell? ⟨gb156, 0, none⟩ = some (.string ((rd_T79 l0 x16_1).f0)) := (blk_cell BK156.out 0).trans rfl
                        have hcz41_1 : wc.cell? ⟨gb156, 1, none⟩ = some (.int .i64 ((rd_T79 l0 x16_1).f1)) := (blk_cell BK156.out 1).trans rfl
                        have hcz41_2 : wc.cell? ⟨gb156, 2, none⟩ = some (.string ((rd_T79 l0 x16_1).f2)) := (blk_cell BK156.out 2).trans rfl
                        have hcz41_3 : wc.cell? ⟨gb156, 3, none⟩ = some (.bool ((rd_T79 l0 x16_1).f3)) := (blk_cell BK156.out 3).trans rfl
                        have hfz41_0 := blk_frozen BK156.out 0
                        have hfz41_1 := blk_frozen BK156.out 1
                        have hfz41_2 := blk_frozen BK156.out 2
                        have hfz41_3 := blk_frozen BK156.out 3
                        obtain ⟨nn, hnn, hown⟩ := HM.out.2
                        replace hown := own_below hown HB.out hown.lt
                        have hkey : keyOf Tryd.prog 9 (.string (rd_T79 l0 x16_1).f0) = some (skey (rd_T79 l0 x16_1).f0) := Go.WideMaps.keyOf_string_mk Tryd.underlying9 (name_size hsz.out x16_1 HX.out (of_decide_eq_true c5b0))
                        have hn : nn < maxLen := by have h1_ := of_decide_eq_true c5b0; have h5_ := h5.out; unfold maxLen; omega
                        go_wp2_with (first
                          | (at_mapUpdate; refine wpList_mapUpdate_own _ rfl _ _ _ 83 rfl 9 3 (Go.Maps.string_keyed Tryd.underlying9) Tryd.underlying83 _ w.heap.size nn _ rfl hown hn _ _ _ rfl rfl hkey _ [] (plainElem_int Tryd.underlying3 (by decide)) ?_)
                          | go_in)
                        intro w1 hown1 hgrow1
                        have TN := Aside0.mk (TM_put HM.out.1 hnn HB.out hgrow1 HX.out (of_decide_eq_true c5b0) h5.out (beq_iff_eq.mp c39b0) hown1)
                        clear hown hown1 hkey hn hgrow1 hnn
                        go_wp2
                        go_roundg kj5
                        case measure => have := HK1.out; have := HJ5.out; omega
                        case rel => exact ⟨(wrap64 (x16_1 + 1)), _, (by first | rfl | (simp; done) | (simp [*]; done) | (simp; (generalize ByteArray.toList _ = q; cases q <;> rfl))), (by first | exact H' | (rw [hji12]; exact H')), ⟨by have := HK1.out; have := HJ5.out; omega⟩, TN, ⟨by have h1_ := of_decide_eq_true c5b0; have h5_ := h5.out; have h0_ := HX.out; unfold wrap64; omega⟩, ⟨Below.refl _ _⟩⟩
                      · rw [if_neg c40] at H
                        have c40b0 : (((rd_T79 l0 x16_1).f2).toList == ([] : List UInt8)) = false := beq_eq_false_iff_ne.mpr c40
                        have c40E : ((rd_T79 l0 x16_1).f2).toList.isEmpty = false := by have h_ := c40b0; revert h_; cases ((rd_T79 l0 x16_1).f2).toList <;> intro h_ <;> first | rfl | (simp at h_)
                        have c40b1 : (((rd_T79 l0 x16_1).f2).toList != ([] : List UInt8)) = true := bne_iff_ne.mpr c40
                        obtain rfl := Option.some.inj H
                        have hcz42_0 : wc.cell? ⟨gb156, 0, none⟩ = some (.string ((rd_T79 l0 x16_1).f0)) := (blk_cell BK156.out 0).trans rfl
                        have hcz42_1 : wc.cell? ⟨gb156, 1, none⟩ = some (.int .i64 ((rd_T79 l0 x16_1).f1)) := (blk_cell BK156.out 1).trans rfl
                        have hcz42_2 : wc.cell? ⟨gb156, 2, none⟩ = some (.string ((rd_T79 l0 x16_1).f2)) := (blk_cell BK156.out 2).trans rfl
                        have hcz42_3 : wc.cell? ⟨gb156, 3, none⟩ = some (.bool ((rd_T79 l0 x16_1).f3)) := (blk_cell BK156.out 3).trans rfl
                        have hfz42_0 := blk_frozen BK156.out 0
                        have hfz42_1 := blk_frozen BK156.out 1
                        have hfz42_2 := blk_frozen BK156.out 2
                        have hfz42_3 := blk_frozen BK156.out 3
                        go_wp2
                        go_ret
                        exact ⟨by first | rfl | (simp [errW_none, errW_some] <;> rfl) | (simp [*, errW_none, errW_some] <;> rfl), below_on HM.out.1 (by repeat (first | (with_reducible first | exact HB.out | apply below_alloc | apply pw_below_drewN | apply below_drew1 | refine below_set ?_ GE156.out) | exact HB.out))⟩
                    · rw [if_neg c39] at H
                      have c39b0 : (((rd_T79 l0 x16_1).f1) == 1) = false := beq_eq_false_iff_ne.mpr c39
                      have c39b1 : (((rd_T79 l0 x16_1).f1) != 1) = true := bne_iff_ne.mpr c39
                      by_cases c43 : ((rd_T79 l0 x16_1).f1) = 2
                      · rw [if_pos c43] at H
                        have c43b0 : (((rd_T79 l0 x16_1).f1) == 2) = true := beq_iff_eq.mpr c43
                        have c43b1 : (((rd_T79 l0 x16_1).f1) != 2) = false := bne_eq_false_iff_eq.mpr c43
                        clear c43
                        by_cases c44 : (((rd_T79 l0 x16_1).f2).size : Int) > 20000
                        · rw [if_pos c44] at H
                          have c44b0 : decide (20000 < (((rd_T79 l0 x16_1).f2).size : Int)) = true := decide_eq_true c44
                          have c44b1 : decide (20000 < ((rd_T79 l0 x16_1).f2).size) = true := decide_eq_true (by omega)
                          clear c44
                          obtain rfl := Option.some.inj H
                          have hcz45_0 : wc.cell? ⟨gb156, 0, none⟩ = some (.string ((rd_T79 l0 x16_1).f0)) := (blk_cell BK156.out 0).trans rfl
                          have hcz45_1 : wc.cell? ⟨gb156, 1, none⟩ = some (.int .i64 ((rd_T79 l0 x16_1).f1)) := (blk_cell BK156.out 1).trans rfl
                          have hcz45_2 : wc.cell? ⟨gb156, 2, none⟩ = some (.string ((rd_T79 l0 x16_1).f2)) := (blk_cell BK156.out 2).trans rfl
                          have hcz45_3 : wc.cell? ⟨gb156, 3, none⟩ = some (.bool ((rd_T79 l0 x16_1).f3)) := (blk_cell BK156.out 3).trans rfl
                          have hfz45_0 := blk_frozen BK156.out 0
                          have hfz45_1 := blk_frozen BK156.out 1
                          have hfz45_2 := blk_frozen BK156.out 2
                          have hfz45_3 := blk_frozen BK156.out 3
                          go_wp2
                          go_ret
                          exact ⟨by first | rfl | (simp [errW_none, errW_some] <;> rfl) | (simp [*, errW_none, errW_some] <;> rfl), below_on HM.out.1 (by repeat (first | (with_reducible first | exact HB.out | apply below_alloc | apply pw_below_drewN | apply below_drew1 | refine below_set ?_ GE156.out) | exact HB.out))⟩
                        · rw [if_neg c44] at H
                          have c44b0 : decide (20000 < (((rd_T79 l0 x16_1).f2).size : Int)) = false := decide_eq_false c44
                          have c44b1 : decide (20000 < ((rd_T79 l0 x16_1).f2).size) = false := decide_eq_false (by omega)
                          clear c44
                          have H' := Aside0.mk H
                          clear H
                          have hcz46_0 : wc.cell? ⟨gb156, 0, none⟩ = some (.string ((rd_T79 l0 x16_1).f0)) := (blk_cell BK156.out 0).trans rfl
                          have hcz46_1 : wc.cell? ⟨gb156, 1, none⟩ = some (.int .i64 ((rd_T79 l0 x16_1).f1)) := (blk_cell BK156.out 1).trans rfl
                          have hcz46_2 : wc.cell? ⟨gb156, 2, none⟩ = some (.string ((rd_T79 l0 x16_1).f2)) := (blk_cell BK156.out 2).trans rfl
                          have hcz46_3 : wc.cell? ⟨gb156, 3, none⟩ = some (.bool ((rd_T79 l0 x16_1).f3)) := (blk_cell BK156.out 3).trans rfl
                          have hfz46_0 := blk_frozen BK156.out 0
                          have hfz46_1 := blk_frozen BK156.out 1
                          have hfz46_2 := blk_frozen BK156.out 2
                          have hfz46_3 := blk_frozen BK156.out 3
                          go_wp2
                          go_roundg kj5
                          case measure => have := HK1.out; have := HJ5.out; omega
                          case rel => exact ⟨(wrap64 (x16_1 + 1)), _, (by first | rfl | (simp; done) | (simp [*]; done) | (simp; (generalize ByteArray.toList _ = q; cases q <;> rfl))), (by first | exact H' | (rw [hji12]; exact H')), ⟨by have := HK1.out; have := HJ5.out; omega⟩, ⟨TM_skip HM.out HX.out (of_decide_eq_true c5b0) h5.out (bne_iff_ne.mp c39b1)⟩, ⟨by have h1_ := of_decide_eq_true c5b0; have h5_ := h5.out; have h0_ := HX.out; unfold wrap64; omega⟩, ⟨by repeat (first | (with_reducible first | exact HB.out | apply below_alloc | apply pw_below_drewN | apply below_drew1 | refine below_set ?_ GE156.out) | exact HB.out)⟩⟩
                      · rw [if_neg c43] at H
                        have c43b0 : (((rd_T79 l0 x16_1).f1) == 2) = false := beq_eq_false_iff_ne.mpr c43
                        have c43b1 : (((rd_T79 l0 x16_1).f1) != 2) = true := bne_iff_ne.mpr c43
                        by_cases c47 : ((rd_T79 l0 x16_1).f1) = 3
                        · rw [if_pos c47] at H
                          have c47b0 : (((rd_T79 l0 x16_1).f1) == 3) = true := beq_iff_eq.mpr c47
                          have c47b1 : (((rd_T79 l0 x16_1).f1) != 3) = false := bne_eq_false_iff_eq.mpr c47
                          clear c47
                          by_cases c48 : (((rd_T79 l0 x16_1).f2).size : Int) < 1
                          · rw [if_pos c48] at H
                            have c48b0 : decide ((((rd_T79 l0 x16_1).f2).size : Int) < 1) = true := decide_eq_true c48
                            have c48b1 : decide (((rd_T79 l0 x16_1).f2).size < 1) = true := decide_eq_true (by omega)
                            clear c48
                            obtain rfl := Option.some.inj H
                            have hcz49_0 : wc.cell? ⟨gb156, 0, none⟩ = some (.string ((rd_T79 l0 x16_1).f0)) := (blk_cell BK156.out 0).trans rfl
                            have hcz49_1 : wc.cell? ⟨gb156, 1, none⟩ = some (.int .i64 ((rd_T79 l0 x16_1).f1)) := (blk_cell BK156.out 1).trans rfl
                            have hcz49_2 : wc.cell? ⟨gb156, 2, none⟩ = some (.string ((rd_T79 l0 x16_1).f2)) := (blk_cell BK156.out 2).trans rfl
                            have hcz49_3 : wc.cell? ⟨gb156, 3, none⟩ = some (.bool ((rd_T79 l0 x16_1).f3)) := (blk_cell BK156.out 3).trans rfl
                            have hfz49_0 := blk_frozen BK156.out 0
                            have hfz49_1 := blk_frozen BK156.out 1
                            have hfz49_2 := blk_frozen BK156.out 2
                            have hfz49_3 := blk_frozen BK156.out 3
                            go_wp2
                            go_ret
                            exact ⟨by first | rfl | (simp [errW_none, errW_some] <;> rfl) | (simp [*, errW_none, errW_some] <;> rfl), below_on HM.out.1 (by repeat (first | (with_reducible first | exact HB.out | apply below_alloc | apply pw_below_drewN | apply below_drew1 | refine below_set ?_ GE156.out) | exact HB.out))⟩
                          · rw [if_neg c48] at H
                            have c48b0 : decide ((((rd_T79 l0 x16_1).f2).size : Int) < 1) = false := decide_eq_false c48
                            have c48b1 : decide (((rd_T79 l0 x16_1).f2).size < 1) = false := decide_eq_false (by omega)
                            clear c48
                            by_cases c50 : (((rd_T79 l0 x16_1).f2).size : Int) > 20000
                            · rw [if_pos c50] at H
                              have c50b0 : decide (20000 < (((rd_T79 l0 x16_1).f2).size : Int)) = true := decide_eq_true c50
                              have c50b1 : decide (20000 < ((rd_T79 l0 x16_1).f2).size) = true := decide_eq_true (by omega)
                              clear c50
                              obtain rfl := Option.some.inj H
                              have hcz51_0 : wc.cell? ⟨gb156, 0, none⟩ = some (.string ((rd_T79 l0 x16_1).f0)) := (blk_cell BK156.out 0).trans rfl
                              have hcz51_1 : wc.cell? ⟨gb156, 1, none⟩ = some (.int .i64 ((rd_T79 l0 x16_1).f1)) := (blk_cell BK156.out 1).trans rfl
                              have hcz51_2 : wc.cell? ⟨gb156, 2, none⟩ = some (.string ((rd_T79 l0 x16_1).f2)) := (blk_cell BK156.out 2).trans rfl
                              have hcz51_3 : wc.cell? ⟨gb156, 3, none⟩ = some (.bool ((rd_T79 l0 x16_1).f3)) := (blk_cell BK156.out 3).trans rfl
                              have hfz51_0 := blk_frozen BK156.out 0
                              have hfz51_1 := blk_frozen BK156.out 1
                              have hfz51_2 := blk_frozen BK156.out 2
                              have hfz51_3 := blk_frozen BK156.out 3
                              go_wp2
                              go_ret
                              exact ⟨by first | rfl | (simp [errW_none, errW_some] <;> rfl) | (simp [*, errW_none, errW_some] <;> rfl), below_on HM.out.1 (by repeat (first | (with_reducible first | exact HB.out | apply below_alloc | apply pw_below_drewN | apply below_drew1 | refine below_set ?_ GE156.out) | exact HB.out))⟩
                            · rw [if_neg c50] at H
                              have c50b0 : decide (20000 < (((rd_T79 l0 x16_1).f2).size : Int)) = false := decide_eq_false c50
                              have c50b1 : decide (20000 < ((rd_T79 l0 x16_1).f2).size) = false := decide_eq_false (by omega)
                              clear c50
                              have H' := Aside0.mk H
                              clear H
                              have hcz52_0 : wc.cell? ⟨gb156, 0, none⟩ = some (.string ((rd_T79 l0 x16_1).f0)) := (blk_cell BK156.out 0).trans rfl
                              have hcz52_1 : wc.cell? ⟨gb156, 1, none⟩ = some (.int .i64 ((rd_T79 l0 x16_1).f1)) := (blk_cell BK156.out 1).trans rfl
                              have hcz52_2 : wc.cell? ⟨gb156, 2, none⟩ = some (.string ((rd_T79 l0 x16_1).f2)) := (blk_cell BK156.out 2).trans rfl
                              have hcz52_3 : wc.cell? ⟨gb156, 3, none⟩ = some (.bool ((rd_T79 l0 x16_1).f3)) := (blk_cell BK156.out 3).trans rfl
                              have hfz52_0 := blk_frozen BK156.out 0
                              have hfz52_1 := blk_frozen BK156.out 1
                              have hfz52_2 := blk_frozen BK156.out 2
                              have hfz52_3 := blk_frozen BK156.out 3
                              go_wp2
                              go_roundg kj5
                              case measure => have := HK1.out; have := HJ5.out; omega
                              case rel => exact ⟨(wrap64 (x16_1 + 1)), _, (by first | rfl | (simp; done) | (simp [*]; done) | (simp; (generalize ByteArray.toList _ = q; cases q <;> rfl))), (by first | exact H' | (rw [hji12]; exact H')), ⟨by have := HK1.out; have := HJ5.out; omega⟩, ⟨TM_skip HM.out HX.out (of_decide_eq_true c5b0) h5.out (bne_iff_ne.mp c39b1)⟩, ⟨by have h1_ := of_decide_eq_true c5b0; have h5_ := h5.out; have h0_ := HX.out; unfold wrap64; omega⟩, ⟨by repeat (first | (with_reducible first | exact HB.out | apply below_alloc | apply pw_below_drewN | apply below_drew1 | refine below_set ?_ GE156.out) | exact HB.out)⟩⟩
                        · rw [if_neg c47] at H
                          have c47b0 : (((rd_T79 l0 x16_1).f1) == 3) = false := beq_eq_false_iff_ne.mpr c47
                          have c47b1 : (((rd_T79 l0 x16_1).f1) != 3) = true := bne_iff_ne.mpr c47
                          obtain rfl := Option.some.inj H
                          have hcz53_0 : wc.cell? ⟨gb156, 0, none⟩ = some (.string ((rd_T79 l0 x16_1).f0)) := (blk_cell BK156.out 0).trans rfl
                          have hcz53_1 : wc.cell? ⟨gb156, 1, none⟩ = some (.int .i64 ((rd_T79 l0 x16_1).f1)) := (blk_cell BK156.out 1).trans rfl
                          have hcz53_2 : wc.cell? ⟨gb156, 2, none⟩ = some (.string ((rd_T79 l0 x16_1).f2)) := (blk_cell BK156.out 2).trans rfl
                          have hcz53_3 : wc.cell? ⟨gb156, 3, none⟩ = some (.bool ((rd_T79 l0 x16_1).f3)) := (blk_cell BK156.out 3).trans rfl
                          have hfz53_0 := blk_frozen BK156.out 0
                          have hfz53_1 := blk_frozen BK156.out 1
                          have hfz53_2 := blk_frozen BK156.out 2
                          have hfz53_3 := blk_frozen BK156.out 3
                          go_wp2
                          go_ret
                          exact ⟨by first | rfl | (simp [errW_none, errW_some] <;> rfl) | (simp [*, errW_none, errW_some] <;> rfl), below_on HM.out.1 (by repeat (first | (with_reducible first | exact HB.out | apply below_alloc | apply pw_below_drewN | apply below_drew1 | refine below_set ?_ GE156.out) | exact HB.out))⟩
            · rw [if_neg c5] at H
              exact absurd H (by simp)
          · rw [if_neg c4] at H
            exact absurd H (by simp)
        · rw [if_neg c3] at H
          have HX2 := Aside0.mk (show (l0.length : Int) ≤ x16_1 by omega)
          have c3b0 : decide (x16_1 < (l0.length : Int)) = false := decide_eq_false c3
          clear c3
          have H' := Aside0.mk H
          clear H
          go_wp2
          go_loopg [80] k1 (fun kq v80 w' => ∃ (x80_2 : Int), v80 = .int .i64 x80_2 ∧ Aside0 (impl_TreeOk.l1 kq l0 (l0.length : Int) x80_2 = some r) ∧ Aside0 (kq ≤ k1) ∧ Aside0 (Below wm.heap.size wm w'))
          case atStart => exact ⟨(0), (by first | rfl | (simp; done) | (simp [*]; done) | (simp; (generalize ByteArray.toList _ = q; cases q <;> rfl))), H', ⟨Nat.le_refl _⟩, ⟨by repeat (first | (with_reducible first | exact HB.out | apply below_alloc | apply pw_below_drewN | apply below_drew1) | exact HB.out)⟩⟩
          case round =>
            clear H'
            try clear c1
            try clear c2
            try clear p2
            try clear c3
            try clear c3b0
            try clear c4
            try clear c5
            try clear c6
            try clear p6
            try clear c10
            try clear c28
            try clear c38
            try clear c39
            try clear c39b0
            try clear c39b1
            try clear c40
            try clear c40b0
            try clear c40b1
            try clear c43
            try clear c43b0
            try clear c43b1
            try clear c44
            try clear c44b0
            try clear c44b1
            try clear c47
            try clear c47b0
            try clear c47b1
            try clear c48
            try clear c48b0
            try clear c48b1
            try clear c50
            try clear c50b0
            try clear c50b1
            try clear hcz41_0
            try clear hcz41_1
            try clear hcz41_2
            try clear hcz41_3
            try clear hcz42_0
            try clear hcz42_1
            try clear hcz42_2
            try clear hcz42_3
            try clear hcz45_0
            try clear hcz45_1
            try clear hcz45_2
            try clear hcz45_3
            try clear hcz46_0
            try clear hcz46_1
            try clear hcz46_2
            try clear hcz46_3
            try clear hcz49_0
            try clear hcz49_1
            try clear hcz49_2
            try clear hcz49_3
            try clear hcz51_0
            try clear hcz51_1
            try clear hcz51_2
            try clear hcz51_3
            try clear hcz52_0
            try clear hcz52_1
            try clear hcz52_2
            try clear hcz52_3
            try clear hcz53_0
            try clear hcz53_1
            try clear hcz53_2
            try clear hcz53_3
            try clear hfz41_0
            try clear hfz41_1
            try clear hfz41_2
            try clear hfz41_3
            try clear hfz42_0
            try clear hfz42_1
            try clear hfz42_2
            try clear hfz42_3
            try clear hfz45_0
            try clear hfz45_1
            try clear hfz45_2
            try clear hfz45_3
            try clear hfz46_0
            try clear hfz46_1
            try clear hfz46_2
            try clear hfz46_3
            try clear hfz49_0
            try clear hfz49_1
            try clear hfz49_2
            try clear hfz49_3
            try clear hfz51_0
            try clear hfz51_1
            try clear hfz51_2
            try clear hfz51_3
            try clear hfz52_0
            try clear hfz52_1
            try clear hfz52_2
            try clear hfz52_3
            try clear hfz53_0
            try clear hfz53_1
            try clear hfz53_2
            try clear hfz53_3
            try clear p2
            obtain ⟨x80_2, rfl, HA, HK2, HB⟩ := hrel
            cases gk with
            | zero => exact absurd HA.out (by simp [impl_TreeOk.l1])
            | succ k2 =>
              have H := HA.out
              clear HA
              simp only [impl_TreeOk.l1] at H
              by_cases c54 : x80_2 < (l0.length : Int)
              · rw [if_pos c54] at H
                have c54b0 : decide (x80_2 < (l0.length : Int)) = true := decide_eq_true c54
                clear c54
                by_cases c55 : 0 ≤ x80_2
                · rw [if_pos c55] at H
                  have c55b0 : decide (0 ≤ x80_2) = true := decide_eq_true c55
                  clear c55
                  by_cases c56 : x80_2 < (l0.length : Int)
                  · rw [if_pos c56] at H
                    have c56b0 : decide (x80_2 < (l0.length : Int)) = true := decide_eq_true c56
                    clear c56
                    replace H := Option.bind_eq_some_iff.mp H
                    obtain ⟨⟨t161, t162⟩, A570, H⟩ := H
                    replace H : (if t162 = true then ((seenF l0 t161).bind fun t163 => (if t163 = 0 then (some false) else (impl_TreeOk.l1 k2 l0 (l0.length : Int) (wrap64 (x80_2 + 1))))) else (impl_TreeOk.l1 k2 l0 (l0.length : Int) (wrap64 (x80_2 + 1)))) = some r := H
                    have HX3 := Aside0.mk (of_decide_eq_true c55b0)
                    have HX4 := Aside0.mk (of_decide_eq_true c56b0)
                    have A57 := Aside0.mk A570
                    clear A570
                    by_cases c58 : t162 = true
                    · subst c58
                      have H1 : ((seenF l0 t161).bind fun t163 => (if t163 = 0 then (some false) else (impl_TreeOk.l1 k2 l0 (l0.length : Int) (wrap64 (x80_2 + 1))))) = some r := by rw [if_pos rfl] at H; exact H
                      clear H
                      have H := H1
                      clear H1
                      replace H := Option.bind_eq_some_iff.mp H
                      obtain ⟨t163, A590, H⟩ := H
                      replace H : (if t163 = 0 then (some false) else (impl_TreeOk.l1 k2 l0 (l0.length : Int) (wrap64 (x80_2 + 1)))) = some r := H
                      have A59 := Aside0.mk A590
                      clear A590
                      by_cases c60 : t163 = 0
                      · rw [if_pos c60] at H
                        have c60b0 : (t163 == 0) = true := beq_iff_eq.mpr c60
                        have c60b1 : (t163 != 0) = false := bne_eq_false_iff_eq.mpr c60
                        clear c60
                        obtain rfl := Option.some.inj H
                        have p159 : 0 ≤ (x80_2 : Int) := of_decide_eq_true (by first | (with_reducible assumption) | assumption)
                        have q159 : x80_2 < (l0.length : Int) := of_decide_eq_true (by first | (with_reducible assumption) | assumption)
                        obtain ⟨ad159, e159, hx159_0, hx159_1, hx159_2, hx159_3⟩ := at_T79 HR0.out x80_2 p159 q159
                        cases e159
                        try (replace hx159_0 := (HB.out.cell (World.block_lt_of_cell? wm _ hx159_0)).trans hx159_0)
                        try (replace hx159_1 := (HB.out.cell (World.block_lt_of_cell? wm _ hx159_1)).trans hx159_1)
                        try (replace hx159_2 := (HB.out.cell (World.block_lt_of_cell? wm _ hx159_2)).trans hx159_2)
                        try (replace hx159_3 := (HB.out.cell (World.block_lt_of_cell? wm _ hx159_3)).trans hx159_3)
                        replace p159 := eq_true p159
                        replace q159 := eq_true q159
                        go_wp2_with (first | ((with_reducible refine gate_dst (N := 7) rfl ?_); (try (refine gate_guard (by rfl) ?_; dsimp only)); refine box_event ?hg (N := 7) ?hd (cs := #[.string (⟨#[]⟩ : ByteArray), .int .i64 0, .string (⟨#[]⟩ : ByteArray), .bool false]) (t := 79) ?hr ?_; (case hd => rfl); (case hg => rfl); (case hr => first | (go_simp; done) | (go_simp; rfl)); intro gb160 hg w61 hbox hb; have n0_ := Aside0.mk (below_step (by repeat (first | (with_reducible first | exact HB.out | apply below_alloc | apply pw_below_drewN | apply below_drew1) | exact HB.out)) hb); have n1_ := Aside0.mk (hbox); have n2_ := Aside0.mk ((by rw [hg]; exact (below_size (by repeat (first | (with_reducible first | exact HB.out | apply below_alloc | apply pw_below_drewN | apply below_drew1) | exact HB.out))) : wm.heap.size ≤ gb160)); have n3_ := Aside0.mk ((by rw [hg]; exact (below_size (by repeat (first | (with_reducible first | exact HB.out | apply below_alloc | apply pw_below_drewN | apply below_drew1) | exact HB.out))) : wm.heap.size ≤ gb160)); clear HB; have HB := n0_; have BK160 := n1_; have GW160 := n2_; have GE160 := n3_; clear n0_ n1_ n2_ n3_; clear hb hbox hg; have hcz62_0 : w61.cell? ⟨gb160, 0, none⟩ = some (.string (⟨#[]⟩ : ByteArray)) := (blk_cell BK160.out 0).trans rfl; have hcz62_1 : w61.cell? ⟨gb160, 1, none⟩ = some (.int .i64 0) := (blk_cell BK160.out 1).trans rfl; have hcz62_2 : w61.cell? ⟨gb160, 2, none⟩ = some (.string (⟨#[]⟩ : ByteArray)) := (blk_cell BK160.out 2).trans rfl; have hcz62_3 : w61.cell? ⟨gb160, 3, none⟩ = some (.bool false) := (blk_cell BK160.out 3).trans rfl; have hfz62_0 := blk_frozen BK160.out 0; have hfz62_1 := blk_frozen BK160.out 1; have hfz62_2 := blk_frozen BK160.out 2; have hfz62_3 := blk_frozen BK160.out 3) | ((with_reducible refine gate_callee (f := 64) rfl ?_); refine goesL_ (some 87) rfl rfl Tryd.func64 (by kernel_rfl) rfl #[.string ((rd_T79 l0 x80_2).f0)] rfl (by (try simp only [List.map_toArray, List.map_cons, List.map_nil]); first | done | rfl | (simp only [List.length_drop, List.length_take]; rfl)) ?_; (with_reducible refine (impl_upper.calls k2 ((rd_T79 l0 x80_2).f0) t161 true _ A57.out).mono ?_); rintro e w' ⟨rfl, hdr⟩; have n0_ := Aside0.mk (below_drawn (by repeat (first | (with_reducible first | exact HB.out | apply below_alloc | apply pw_below_drewN | apply below_drew1 | refine below_set ?_ GE160.out) | exact HB.out)) hdr); clear HB hdr; have HB := n0_; clear n0_; have hlook := TM_look HM.out HX2.out HB.out (Nat.le_trans (upper_size _ _ _ _ A57.out) (name_size hsz.out x80_2 HX3.out HX4.out)) A59.out; refine ⟨_, rfl, ?_⟩))
                        go_ret
                        exact ⟨by first | rfl | (simp [errW_none, errW_some] <;> rfl) | (simp [*, errW_none, errW_some] <;> rfl), below_on HM.out.1 (by repeat (first | (with_reducible first | exact HB.out | apply below_alloc | apply pw_below_drewN | apply below_drew1 | refine below_set ?_ GE160.out) | exact HB.out))⟩
                      · rw [if_neg c60] at H
                        have c60b0 : (t163 == 0) = false := beq_eq_false_iff_ne.mpr c60
                        have c60b1 : (t163 != 0) = true := bne_iff_ne.mpr c60
                        have H' := Aside0.mk H
                        clear H
                        have p159 : 0 ≤ (x80_2 : Int) := of_decide_eq_true (by first | (with_reducible assumption) | assumption)
                        have q159 : x80_2 < (l0.length : Int) := of_decide_eq_true (by first | (with_reducible assumption) | assumption)
                        obtain ⟨ad159, e159, hx159_0, hx159_1, hx159_2, hx159_3⟩ := at_T79 HR0.out x80_2 p159 q159
                        cases e159
                        try (replace hx159_0 := (HB.out.cell (World.block_lt_of_cell? wm _ hx159_0)).trans hx159_0)
                        try (replace hx159_1 := (HB.out.cell (World.block_lt_of_cell? wm _ hx159_1)).trans hx159_1)
                        try (replace hx159_2 := (HB.out.cell (World.block_lt_of_cell? wm _ hx159_2)).trans hx159_2)
                        try (replace hx159_3 := (HB.out.cell (World.block_lt_of_cell? wm _ hx159_3)).trans hx159_3)
                        replace p159 := eq_true p159
                        replace q159 := eq_true q159
                        go_wp2_with (first | ((with_reducible refine gate_dst (N := 7) rfl ?_); (try (refine gate_guard (by rfl) ?_; dsimp only)); refine box_event ?hg (N := 7) ?hd (cs := #[.string (⟨#[]⟩ : ByteArray), .int .i64 0, .string (⟨#[]⟩ : ByteArray), .bool false]) (t := 79) ?hr ?_; (case hd => rfl); (case hg => rfl); (case hr => first | (go_simp; done) | (go_simp; rfl)); intro gb160 hg w63 hbox hb; have n0_ := Aside0.mk (below_step (by repeat (first | (with_reducible first | exact HB.out | apply below_alloc | apply pw_below_drewN | apply below_drew1) | exact HB.out)) hb); have n1_ := Aside0.mk (hbox); have n2_ := Aside0.mk ((by rw [hg]; exact (below_size (by repeat (first | (with_reducible first | exact HB.out | apply below_alloc | apply pw_below_drewN | apply below_drew1) | exact HB.out))) : wm.heap.size ≤ gb160)); have n3_ := Aside0.mk ((by rw [hg]; exact (below_size (by repeat (first | (with_reducible first | exact HB.out | apply below_alloc | apply pw_below_drewN | apply below_drew1) | exact HB.out))) : wm.heap.size ≤ gb160)); clear HB; have HB := n0_; have BK160 := n1_; have GW160 := n2_; have GE160 := n3_; clear n0_ n1_ n2_ n3_; clear hb hbox hg; have hcz64_0 : w63.cell? ⟨gb160, 0, none⟩ = some (.string (⟨#[]⟩ : ByteArray)) := (blk_cell BK160.out 0).trans rfl; have hcz64_1 : w63.cell? ⟨gb160, 1, none⟩ = some (.int .i64 0) := (blk_cell BK160.out 1).trans rfl; have hcz64_2 : w63.cell? ⟨gb160, 2, none⟩ = some (.string (⟨#[]⟩ : ByteArray)) := (blk_cell BK160.out 2).trans rfl; have hcz64_3 : w63.cell? ⟨gb160, 3, none⟩ = some (.bool false) := (blk_cell BK160.out 3).trans rfl; have hfz64_0 := blk_frozen BK160.out 0; have hfz64_1 := blk_frozen BK160.out 1; have hfz64_2 := blk_frozen BK160.out 2; have hfz64_3 := blk_frozen BK160.out 3) | ((with_reducible refine gate_callee (f := 64) rfl ?_); refine goesL_ (some 87) rfl rfl Tryd.func64 (by kernel_rfl) rfl #[.string ((rd_T79 l0 x80_2).f0)] rfl (by (try simp only [List.map_toArray, List.map_cons, List.map_nil]); first | done | rfl | (simp only [List.length_drop, List.length_take]; rfl)) ?_; (with_reducible refine (impl_upper.calls k2 ((rd_T79 l0 x80_2).f0) t161 true _ A57.out).mono ?_); rintro e w' ⟨rfl, hdr⟩; have n0_ := Aside0.mk (below_drawn (by repeat (first | (with_reducible first | exact HB.out | apply below_alloc | apply pw_below_drewN | apply below_drew1 | refine below_set ?_ GE160.out) | exact HB.out)) hdr); clear HB hdr; have HB := n0_; clear n0_; have hlook := TM_look HM.out HX2.out HB.out (Nat.le_trans (upper_size _ _ _ _ A57.out) (name_size hsz.out x80_2 HX3.out HX4.out)) A59.out; refine ⟨_, rfl, ?_⟩))
                        go_roundg k2
                        case measure => have := HK1.out; have := HK2.out; omega
                        case rel => exact ⟨(wrap64 (x80_2 + 1)), (by first | rfl | (simp; done) | (simp [*]; done) | (simp; (generalize ByteArray.toList _ = q; cases q <;> rfl))), (by first | exact H' | (rw [hji12]; exact H')), ⟨by have := HK1.out; have := HK2.out; omega⟩, ⟨by repeat (first | (with_reducible first | exact HB.out | apply below_alloc | apply pw_below_drewN | apply below_drew1 | refine below_set ?_ GE160.out) | exact HB.out)⟩⟩
                    · replace c58 := Bool.eq_false_iff.mpr c58
                      subst c58
                      have H1 : (impl_TreeOk.l1 k2 l0 (l0.length : Int) (wrap64 (x80_2 + 1))) = some r := by rw [if_neg (show ¬ (false = true) by decide)] at H; exact H
                      clear H
                      have H := H1
                      clear H1
                      have H' := Aside0.mk H
                      clear H
                      have p159 : 0 ≤ (x80_2 : Int) := of_decide_eq_true (by first | (with_reducible assumption) | assumption)
                      have q159 : x80_2 < (l0.length : Int) := of_decide_eq_true (by first | (with_reducible assumption) | assumption)
                      obtain ⟨ad159, e159, hx159_0, hx159_1, hx159_2, hx159_3⟩ := at_T79 HR0.out x80_2 p159 q159
                      cases e159
                      try (replace hx159_0 := (HB.out.cell (World.block_lt_of_cell? wm _ hx159_0)).trans hx159_0)
                      try (replace hx159_1 := (HB.out.cell (World.block_lt_of_cell? wm _ hx159_1)).trans hx159_1)
                      try (replace hx159_2 := (HB.out.cell (World.block_lt_of_cell? wm _ hx159_2)).trans hx159_2)
                      try (replace hx159_3 := (HB.out.cell (World.block_lt_of_cell? wm _ hx159_3)).trans hx159_3)
                      replace p159 := eq_true p159
                      replace q159 := eq_true q159
                      go_wp2_with (first | ((with_reducible refine gate_dst (N := 7) rfl ?_); (try (refine gate_guard (by rfl) ?_; dsimp only)); refine box_event ?hg (N := 7) ?hd (cs := #[.string (⟨#[]⟩ : ByteArray), .int .i64 0, .string (⟨#[]⟩ : ByteArray), .bool false]) (t := 79) ?hr ?_; (case hd => rfl); (case hg => rfl); (case hr => first | (go_simp; done) | (go_simp; rfl)); intro gb160 hg w65 hbox hb; have n0_ := Aside0.mk (below_step (by repeat (first | (with_reducible first | exact HB.out | apply below_alloc | apply pw_below_drewN | apply below_drew1) | exact HB.out)) hb); have n1_ := Aside0.mk (hbox); have n2_ := Aside0.mk ((by rw [hg]; exact (below_size (by repeat (first | (with_reducible first | exact HB.out | apply below_alloc | apply pw_below_drewN | apply below_drew1) | exact HB.out))) : wm.heap.size ≤ gb160)); have n3_ := Aside0.mk ((by rw [hg]; exact (below_size (by repeat (first | (with_reducible first | exact HB.out | apply below_alloc | apply pw_below_drewN | apply below_drew1) | exact HB.out))) : wm.heap.size ≤ gb160)); clear HB; have HB := n0_; have BK160 := n1_; have GW160 := n2_; have GE160 := n3_; clear n0_ n1_ n2_ n3_; clear hb hbox hg; have hcz66_0 : w65.cell? ⟨gb160, 0, none⟩ = some (.string (⟨#[]⟩ : ByteArray)) := (blk_cell BK160.out 0).trans rfl; have hcz66_1 : w65.cell? ⟨gb160, 1, none⟩ = some (.int .i64 0) := (blk_cell BK160.out 1).trans rfl; have hcz66_2 : w65.cell? ⟨gb160, 2, none⟩ = some (.string (⟨#[]⟩ : ByteArray)) := (blk_cell BK160.out 2).trans rfl; have hcz66_3 : w65.cell? ⟨gb160, 3, none⟩ = some (.bool false) := (blk_cell BK160.out 3).trans rfl; have hfz66_0 := blk_frozen BK160.out 0; have hfz66_1 := blk_frozen BK160.out 1; have hfz66_2 := blk_frozen BK160.out 2; have hfz66_3 := blk_frozen BK160.out 3) | ((with_reducible refine gate_callee (f := 64) rfl ?_); refine goesL_ (some 87) rfl rfl Tryd.func64 (by kernel_rfl) rfl #[.string ((rd_T79 l0 x80_2).f0)] rfl (by (try simp only [List.map_toArray, List.map_cons, List.map_nil]); first | done | rfl | (simp only [List.length_drop, List.length_take]; rfl)) ?_; (with_reducible refine (impl_upper.calls k2 ((rd_T79 l0 x80_2).f0) t161 false _ A57.out).mono ?_); rintro e w' ⟨rfl, ⟨nd, rfl⟩⟩; refine ⟨_, rfl, ?_⟩))
                      go_roundg k2
                      case measure => have := HK1.out; have := HK2.out; omega
                      case rel => exact ⟨(wrap64 (x80_2 + 1)), (by first | rfl | (simp; done) | (simp [*]; done) | (simp; (generalize ByteArray.toList _ = q; cases q <;> rfl))), (by first | exact H' | (rw [hji12]; exact H')), ⟨by have := HK1.out; have := HK2.out; omega⟩, ⟨by repeat (first | (with_reducible first | exact HB.out | apply below_alloc | apply pw_below_drewN | apply below_drew1 | refine below_set ?_ GE160.out) | exact HB.out)⟩⟩
                  · rw [if_neg c56] at H
                    exact absurd H (by simp)
                · rw [if_neg c55] at H
                  exact absurd H (by simp)
              · rw [if_neg c54] at H
                have c54b0 : decide (x80_2 < (l0.length : Int)) = false := decide_eq_false c54
                clear c54
                obtain rfl := Option.some.inj H
                go_wp2
                go_ret
                exact ⟨by first | rfl | (simp [errW_none, errW_some] <;> rfl) | (simp [*, errW_none, errW_some] <;> rfl), below_on HM.out.1 (by repeat (first | (with_reducible first | exact HB.out | apply below_alloc | apply pw_below_drewN | apply below_drew1) | exact HB.out))⟩


end Go.Proofs.YtklinldidfdnjaaDoor.PFnExactFindEntry
