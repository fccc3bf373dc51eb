-- Of the words, what this claim uses: laid by a program of this session.
/- A row of structs of one's own that copy() moves up by one place: the place that came free is a hole. A row that was put together from another one's cells. -/
import Derived.Test.YtbgnjnlecpdfaaaVHWalk
import Derived.Laws.IdiomCopy
namespace Go.Proofs.YtbgnjnlecpdfaaaW.PrintWords.Kd
open Go.RowKit
set_option linter.unusedVariables false
theorem seg_low {β : Type} (l cs : List β) (b s m : Nat) (hb : b ≤ l.length) (h : m + s ≤ b) : ((l.take b ++ cs).drop m).take s = (l.drop m).take s := by
  apply List.ext_getElem?
  intro j
  simp only [List.getElem?_take, List.getElem?_drop, List.getElem?_append, List.length_take]
  by_cases hj : j < s
  · rw [if_pos hj, if_pos hj, if_pos (by omega), if_pos (by omega)]
  · rw [if_neg hj, if_neg hj]
theorem seg_high {β : Type} (l : List β) (a b s m T : Nat) (hb : b ≤ l.length) (hab : b = a + s) (hm : b ≤ m) (hT : m - b + s ≤ T) : ((l.take b ++ (l.drop a).take T).drop m).take s = (l.drop (m - s)).take s := by
  apply List.ext_getElem?
  intro j
  simp only [List.getElem?_take, List.getElem?_drop, List.getElem?_append, List.length_take]
  by_cases hj : j < s
  · rw [if_pos hj, if_pos hj, if_neg (by omega), if_pos (by omega)]
    congr 1
    omega
  · rw [if_neg hj, if_neg hj]
section
variable {α : Type} {d : Kd α} {e g n cap base : Nat} {W : World} {ok : Nat → Prop} {xs : List α} {z : α}
theorem S_shift (h : S d e W base ok (.slice (some ⟨g, 0, none⟩) n cap) (xs ++ [z])) (i : Nat) (hi : i ≤ xs.length) :
    ∃ cs : List Value, cs.length = (xs.length - i) * d.sz ∧ (∀ j v, cs[j]? = some v → W.cell? ⟨g, i * d.sz + j, none⟩ = some v) ∧ (∀ v ∈ cs, v.oneCell' = true) ∧
      (∀ j, j < cs.length → (W.cell? ⟨g, (i + 1) * d.sz + j, none⟩).isSome = true ∧ W.frozen? ⟨g, (i + 1) * d.sz + j, none⟩ = false) ∧
      ∃ c, H d e (W.setCells g ((i + 1) * d.sz) cs) base (fun k => ok k ∧ ¬ (fun _ : Nat => False) k) (.slice (some ⟨g, 0, none⟩) n cap) (xs.take i ++ z :: xs.drop i) (i : Int) (fun _ => False) c ∧ W.grownBy (W.setCells g ((i + 1) * d.sz) cs) (some g) := by
  obtain ⟨f, hR⟩ := h
  have hn := (R_reads' hR).1
  rw [List.length_zipIdx, List.length_append, List.length_singleton] at hn
  obtain ⟨hok0, inner, ho, hr⟩ := hR
  have hil : inner.length = (xs.length + 1) * d.sz := by have := hr.1; rw [List.length_zipIdx, List.length_append, List.length_singleton] at this; exact this
  rw [List.length_zipIdx, List.length_append, List.length_singleton] at ho
  obtain ⟨_, ho2⟩ := ho
  rcases ho2 with ⟨hv, _⟩ | ⟨g', cap', cur, hv, hb, hh, hnc, hcm, hcs, htake⟩
  · cases hv
  injection hv with hv1 hv2 hv3
  injection hv1 with hv1
  injection hv1 with hv1 _ _
  subst hv1
  subst hv3
  subst hn
  replace hcs : cur.size = cap * d.sz := hcs
  replace htake : cur.toList.take ((xs.length + 1) * d.sz) = inner := htake
  obtain ⟨A, hA⟩ : ∃ A, A = i * d.sz := ⟨_, rfl⟩
  obtain ⟨T, hT⟩ : ∃ T, T = (xs.length - i) * d.sz := ⟨_, rfl⟩
  have hB : (i + 1) * d.sz = A + d.sz := by rw [Nat.succ_mul, hA]
  have hAT : A + T + d.sz = (xs.length + 1) * d.sz := by rw [hA, hT, ← Nat.add_mul, ← Nat.succ_mul]; congr 1; omega
  have hcl : ((inner.drop A).take T).length = T := by rw [List.length_take, List.length_drop, hil]; omega
  have hcap : (xs.length + 1) * d.sz ≤ cap * d.sz := Nat.mul_le_mul_right _ hnc
  have hone : ∀ v ∈ (inner.drop A).take T, v.oneCell' = true := by
    intro v hv
    have hv2 := List.mem_of_mem_drop (List.mem_of_mem_take hv)
    obtain ⟨q, hq, rfl⟩ := List.mem_iff_getElem.1 hv2
    have hs : 0 < d.sz := by
      rcases Nat.eq_zero_or_pos d.sz with h0 | h0
      · rw [hil, h0, Nat.mul_zero] at hq; omega
      · exact h0
    have hqd : q / d.sz < (xs ++ [z]).length := by
      rw [List.length_append, List.length_singleton]
      exact Nat.div_lt_of_lt_mul (by rw [Nat.mul_comm]; omega)
    have hM := hr.2 (q / d.sz) _ (zip_at (List.getElem?_eq_getElem hqd))
    refine d.K_one (d.K_of_M hM) _ (List.mem_of_getElem? (i := q % d.sz) ?_)
    have hm := Nat.mod_lt q hs
    have hdm : q / d.sz * d.sz + q % d.sz = q := by rw [Nat.mul_comm]; exact Nat.div_add_mod q d.sz
    show (List.take d.sz (List.drop (q / d.sz * d.sz) inner))[q % d.sz]? = _
    rw [List.getElem?_take, if_pos hm, List.getElem?_drop, hdm, List.getElem?_eq_getElem hq]
  obtain ⟨cur', h3, h4, h5⟩ := setCells_row ((inner.drop A).take T) (A + d.sz) W cur hh (by rw [hcl, hcs]; omega)
  obtain ⟨s1, s2, s3, s4⟩ := setCells_same g ((inner.drop A).take T) (A + d.sz) W
  have hg : W.grownBy (W.setCells g (A + d.sz) ((inner.drop A).take T)) (some g) := ⟨s1, s2, s3, by rw [s4]; exact Nat.le_refl _, fun k _ hk => setCells_far _ _ k (fun he => hk (by rw [he]))⟩
  refine ⟨(inner.drop A).take T, by rw [hcl, hT], fun j v hj => ?_, hone, fun j hj => ?_, (((inner.take (A + d.sz) ++ (inner.drop A).take T).drop A).take d.sz), ?_, by rw [hB]; exact hg⟩
  · rw [List.getElem?_take] at hj
    split at hj
    · rw [List.getElem?_drop, ← htake, List.getElem?_take] at hj
      split at hj
      · rw [← hA, cell_of_row W g _ cur e (0, 0) hh, ← Array.getElem?_toList]
        exact hj
      · cases hj
    · cases hj
  · rw [hcl] at hj
    rw [hB]
    refine ⟨?_, blk_frozen hh _⟩
    rw [cell_of_row W g _ cur e (0, 0) hh]
    simp
    omega
  · rw [hB]
    refine ⟨fun k hk => hk.elim, fun k => if f k < i then f k else f k + 1, fun k hk => ⟨⟨hok0 k hk, fun h => h⟩, fun h => h⟩, inner.take (A + d.sz) ++ (inner.drop A).take T, ?_, ?_, fun m p hm => ?_⟩
    · rw [List.length_zipIdx]
      have hL : (xs.take i ++ z :: xs.drop i).length = xs.length + 1 := by rw [List.length_append, List.length_cons, List.length_take, List.length_drop]; omega
      rw [hL]
      refine ⟨by rw [List.length_append, hcl, List.length_take, hil]; show min (A + d.sz) ((xs.length + 1) * d.sz) + T = (xs.length + 1) * d.sz; omega, .inr ⟨g, cap, cur', rfl, hb, h3, hnc, hcm, by rw [h4, hcs]; rfl, ?_⟩⟩
      show cur'.toList.take ((xs.length + 1) * d.sz) = _
      rw [h5, hcl]
      have e1 : cur.toList.take (A + d.sz) = inner.take (A + d.sz) := by
        rw [← htake, List.take_take]
        congr 1
        show A + d.sz = min (A + d.sz) ((xs.length + 1) * d.sz)
        omega
      rw [e1, List.take_append_of_le_length (by rw [List.length_append, hcl, List.length_take, hil]; omega), List.take_of_length_le (by rw [List.length_append, hcl, List.length_take, hil]; omega)]
    · rw [List.length_zipIdx, List.length_append, List.length_append, hcl, List.length_cons, List.length_take, List.length_take, List.length_drop, hil]
      show min (A + d.sz) ((xs.length + 1) * d.sz) + T = (min i xs.length + (xs.length - i + 1)) * d.sz
      rw [show min i xs.length + (xs.length - i + 1) = xs.length + 1 by omega]
      omega
    · rw [List.getElem?_zipIdx, Nat.zero_add] at hm
      obtain ⟨q, hq, rfl⟩ := Option.map_eq_some_iff.1 hm
      have hml : m < xs.length + 1 := by
        have := (List.getElem?_eq_some_iff.1 hq).1
        rw [List.length_append, List.length_cons, List.length_take, List.length_drop] at this
        omega
      have hms : m * d.sz + d.sz ≤ (xs.length + 1) * d.sz := by rw [← Nat.succ_mul]; exact Nat.mul_le_mul_right _ hml
      refine ⟨fun hx => ?_, fun hx => ?_⟩
      · have hx' : m = i := hx
        subst hx'
        refine ⟨by show List.take d.sz (List.drop (m * d.sz) _) = _; rw [← hA], ?_, ?_⟩
        · show (List.take d.sz (List.drop (m * d.sz) _)).length = d.sz
          rw [List.length_take, List.length_drop, List.length_append, hcl, List.length_take, hil]
          omega
        · intro u hu
          have hu2 : u ∈ inner.take (A + d.sz) ++ (inner.drop A).take T := List.mem_of_mem_drop (List.mem_of_mem_take hu)
          rcases List.mem_append.1 hu2 with h6 | h6
          · have hmm : m < (xs ++ [z]).length := by rw [List.length_append, List.length_singleton]; omega
            have hM := hr.2 m _ (zip_at (List.getElem?_eq_getElem hmm))
            refine d.K_one (d.K_of_M hM) u ?_
            have e := seg_low inner ((inner.drop A).take T) (A + d.sz) d.sz (m * d.sz) (by rw [hil]; omega) (by omega)
            show u ∈ List.take d.sz (List.drop (m * d.sz) inner)
            rw [← e]
            exact hu
          · exact hone u h6
      · have hx' : m ≠ i := hx
        show d.M (W.setCells g (A + d.sz) ((inner.drop A).take T)) base _ q (List.take d.sz (List.drop (m * d.sz) (inner.take (A + d.sz) ++ (inner.drop A).take T)))
        by_cases hlt : m < i
        · have hq2 : (xs ++ [z])[m]? = some q := by
            rw [List.getElem?_append_left (by rw [List.length_take]; omega), List.getElem?_take, if_pos hlt] at hq
            rw [List.getElem?_append_left (by omega)]
            exact hq
          have hM := hr.2 m (q, m) (zip_at hq2)
          have hmA : m * d.sz + d.sz ≤ A := by rw [hA, ← Nat.succ_mul]; exact Nat.mul_le_mul_right _ hlt
          rw [seg_low inner _ (A + d.sz) d.sz (m * d.sz) (by rw [hil]; omega) (by omega)]
          refine d.M_mono (fun k hk => ?_) (M_step hM (fun k hk hlt2 => hg.block k hlt2 (fun he => hk.1.2 (by rw [he]; simp [Value.ownBlock]))))
          have h2 : f k = m := hk.2
          refine ⟨⟨⟨⟨hk.1.1, fun h => h⟩, fun h => h⟩, hk.1.2⟩, ?_⟩
          show (if f k < i then f k else f k + 1) = m
          rw [if_pos (by omega)]
          exact h2
        · have hgt : i < m := by omega
          have hq2 : (xs ++ [z])[m - 1]? = some q := by
            rw [List.getElem?_append_right (by rw [List.length_take]; omega), List.length_take, show m - min i xs.length = (m - i - 1) + 1 by omega, List.getElem?_cons_succ, List.getElem?_drop] at hq
            rw [List.getElem?_append_left (by omega), ← hq]
            congr 1
            omega
          have hM := hr.2 (m - 1) (q, m - 1) (zip_at hq2)
          have hmi : (i + 1) * d.sz ≤ m * d.sz := Nat.mul_le_mul_right _ hgt
          rw [hB] at hmi
          rw [seg_high inner A (A + d.sz) d.sz (m * d.sz) T (by rw [hil]; omega) rfl hmi (by omega)]
          rw [show m * d.sz - d.sz = (m - 1) * d.sz by rw [Nat.sub_mul, Nat.one_mul]]
          refine d.M_mono (fun k hk => ?_) (M_step hM (fun k hk hlt2 => hg.block k hlt2 (fun he => hk.1.2 (by rw [he]; simp [Value.ownBlock]))))
          have h2 : f k = m - 1 := hk.2
          refine ⟨⟨⟨⟨hk.1.1, fun h => h⟩, fun h => h⟩, hk.1.2⟩, ?_⟩
          show (if f k < i then f k else f k + 1) = m
          rw [if_neg (by omega)]
          omega
end
section
variable {P : Program} {ops : Array Oper} {o : Oper} {a : Act} {K : Act → World → Prop} {Q : Exit → Act → World → Prop} {E : Prop} {α : Type} {d : Kd α} {e g n cap base : Nat} {W : World} {ok : Nat → Prop} {xs : List α} {z : α}
theorem run_copy_any (w : World) (t ty elem : TypeId) (b off dLen dCap sz : Nat) (p a : Addr) (sLen sCap : Nat) (cs : List Value)
    (hu : P.underlying t = some (.slice elem)) (hs : (P.info? elem).map (·.size) = some sz) (hn : cs.length = (Nat.min sLen dLen) * sz)
    (hsrc : ∀ j v, cs[j]? = some v → w.cell? (a.add j) = some v) (hp : p = ⟨b, off, none⟩ ∨ cs = []) (hc : ∀ j, j < cs.length → (w.cell? ⟨b, off + j, none⟩).isSome = true) (hf : ∀ j, j < cs.length → w.frozen? ⟨b, off + j, none⟩ = false) (h1 : ∀ v ∈ cs, v.oneCell' = true) :
    (Builtin.copy_ #[t, t] ty #[.slice (some p) dLen dCap, .slice (some a) sLen sCap]).run P w = .ok (goInt ((Nat.min sLen dLen : Nat) : Int)) (w.setCells b off cs) := by
  have hl := run_firstCells_some (P := P) w sz (Nat.min sLen dLen) a sLen sCap cs hn hsrc
  cases hq : P.info? elem with
  | none => simp [hq] at hs
  | some i =>
    have hi : i.size = sz := by simpa [hq] using hs
    rcases hp with rfl | rfl
    · have hst := run_storeCells_cells (P := P) b off cs 0 w (by simpa using hc) (by simpa using hf) h1
      simp only [Nat.add_zero] at hst
      simp [Builtin.copy_, run_underlying hu, Builtin.lenOf, sizeOf, typeInfo, hq, hi, hl, hst]
    · simp [Builtin.copy_, run_underlying hu, Builtin.lenOf, sizeOf, typeInfo, hq, hi, hl, storeCells, World.setCells]
theorem S_copy_step (hw : Region.wanted o (yielded ops a.tmps) = true) (s x : Operand) (t : TypeId) (ho : o.op = .call { callee := .builtin .copy, args := #[s, x], argTypes := #[t, t] })
    (ht : P.underlying t = some (.slice e)) (hinfo : (P.info? e).map (·.size) = some d.sz) (i : Nat) (hi : i ≤ xs.length) (hn : n = xs.length + 1) (hcap : n ≤ cap) (HO : S d e W base ok (.slice (some ⟨g, 0, none⟩) n cap) (xs ++ [z]))
    {A1 A2 : Option Addr} {n1 c1 n2 c2 : Nat} (hs : a.eval s = .slice A1 n1 c1) (hn1 : n1 = n - (i + 1)) (hA1 : A1 = if cap = i + 1 then some ⟨g, 0, none⟩ else (some (⟨g, 0, none⟩ : Addr)).map (·.add ((i + 1) * d.sz)))
    (hx : a.eval x = .slice A2 n2 c2) (hn2 : n2 = n - i) (hA2 : A2 = if cap = i then some ⟨g, 0, none⟩ else (some (⟨g, 0, none⟩ : Addr)).map (·.add (i * d.sz)))
    (h : ∀ w1 c, H d e w1 base (fun k => ok k ∧ ¬ (fun _ : Nat => False) k) (.slice (some ⟨g, 0, none⟩) n cap) (xs.take i ++ z :: xs.drop i) (i : Int) (fun _ => False) c → W.grownBy w1 (some g) → K (a.put o.dst (.int .i64 ((n - (i + 1) : Nat) : Int))) w1) :
    if Region.wanted o (yielded ops a.tmps) = true then Oper.wp P o a W K Q else E := by
  obtain ⟨cs, hcl, hcc, hone, hsp, c, hH, hg⟩ := S_shift HO i hi
  rw [if_neg (by omega), Option.map_some, add_plain] at hA2
  subst hA2
  have hmin : Nat.min n2 n1 = xs.length - i := by rw [hn1, hn2, hn]; show min _ _ = _; omega
  have hp : ∃ p, A1 = some p ∧ (p = ⟨g, (i + 1) * d.sz, none⟩ ∨ cs = []) := by
    by_cases hc : cap = i + 1
    · rw [if_pos hc] at hA1
      refine ⟨_, hA1, Or.inr (List.eq_nil_of_length_eq_zero ?_)⟩
      rw [hcl, show xs.length - i = 0 by omega, Nat.zero_mul]
    · rw [if_neg hc, Option.map_some, add_plain] at hA1
      exact ⟨_, hA1, Or.inl rfl⟩
  obtain ⟨p, rfl, hp⟩ := hp
  have hrun := run_copy_any (P := P) W t o.type e g ((i + 1) * d.sz) n1 c1 d.sz p ⟨g, i * d.sz, none⟩ n2 c2 cs ht hinfo (by rw [hmin, hcl]) (fun j v hj => by rw [add_at]; exact hcc j v hj) hp (fun j hj => (hsp j hj).1) (fun j hj => (hsp j hj).2) hone
  rw [hmin] at hrun
  rw [if_pos hw]
  unfold Oper.wp
  simp [execOp, ho, resolve, invoke, builtin, hs, hx, hrun, Result.andThen]
  have := h _ c hH hg
  rw [show n - (i + 1) = xs.length - i by omega] at this
  exact this
end
end Go.Proofs.YtbgnjnlecpdfaaaW.PrintWords.Kd
