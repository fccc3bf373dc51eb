-- Of the words, what this claim uses: laid by a program of this session.
/- '[]byte(s)' in a walk: a new row that is read for as long as its block is kept; rows that are apart told as rows that may share; a row's blocks are not a state's. -/
import Derived.Test.YtkijlpiiiejjkaaVHBytes
import Derived.Test.YtkijlpiiiejjkaaVHWalk
namespace Go.Proofs.YtkijlpiiiejjkaaW.PrintWords
open Go.RowKit Go.Lib
set_option linter.unusedVariables false
theorem RowB.foot {e : TypeId} {w : World} {base g c : Nat} {xs : List Int} (h : RowB e w base (.slice (some ⟨g, 0, none⟩) xs.length c) xs) (hx : xs.length ≤ 9223372036854775807) : Kd.F (Kd.int .u8) w (fun k => k = g) (some ⟨g, 0, none⟩) xs.length xs := by
  obtain ⟨g1, cap, he, h1, h2, h3, h4, h5⟩ := h
  injection he with ha _ hc
  injection ha with ha
  injection ha with ha _ _
  subst ha
  subst hc
  intro W' hW
  have hb := hW g rfl h2
  have hr : ReadsInt W' .u8 (some ⟨g, 0, none⟩) xs.length xs := ⟨rfl, hx, fun _ => ⟨_, rfl, fun j hj => by
    have := h5 j hj
    rw [add_plain]
    simp only [World.cell?] at this ⊢
    rw [hb]
    exact this⟩⟩
  exact Kd.C_of_reads (d := (0 : Int)) (h1 := fun _ => rfl) hr
section
variable {P : Program} {ops : Array Oper} {rest : List Oper} {o : Oper} {a : Act} {Q : Exit → Act → World → Prop}
theorem conv_event {W : World} (hgd : o.guard = none) {N : Tmp} (_hd : o.dst = some N) (x : Operand) {src dst e : TypeId} {u : TypeDesc} {s : ByteArray} (ho : o.op = .convert src dst x) (hx : a.eval x = .string s)
    (hs : P.underlying src = some u) (hd : P.underlying dst = some (.slice e)) (he : P.underlying e = some (.int .u8)) (hz : s.size ≤ 9223372036854775807)
    (h : ∀ g c w1, W.heap.size ≤ g → g < w1.heap.size → (bytesL s).length ≤ c → Kd.F (Kd.int .u8) w1 (fun k => k = g) (some ⟨g, 0, none⟩) (bytesL s).length (bytesL s) → Below W.heap.size W w1 → wpList P ops Q rest (a.put o.dst (.slice (some ⟨g, 0, none⟩) (bytesL s).length c)) w1) : wpList P ops Q (o :: rest) a W := by
  obtain ⟨g, c, w1, hrun, h1, h2, h3, h4, h5⟩ : ∃ g c w1, (convert src dst (.string s)).run P W = .ok (.slice (some ⟨g, 0, none⟩) (bytesL s).length c) w1 ∧ W.heap.size ≤ g ∧ g < w1.heap.size ∧ (bytesL s).length ≤ c ∧ Kd.F (Kd.int .u8) w1 (fun k => k = g) (some ⟨g, 0, none⟩) (bytesL s).length (bytesL s) ∧ Below W.heap.size W w1 :=
    conv_step (G := fun z => ∃ g c w1, z = .ok (.slice (some ⟨g, 0, none⟩) (bytesL s).length c) w1 ∧ W.heap.size ≤ g ∧ g < w1.heap.size ∧ (bytesL s).length ≤ c ∧ Kd.F (Kd.int .u8) w1 (fun k => k = g) (some ⟨g, 0, none⟩) (bytesL s).length (bytesL s) ∧ Below W.heap.size W w1) hs hd he hz fun g c w1 hl _ hb hR => by
      have hF := RowB.foot hR (by rw [bytesL_length]; exact hz)
      obtain ⟨g1, cap, hv, k1, k2, _⟩ := hR
      injection hv with ha _ _
      injection ha with ha
      injection ha with ha _ _
      subst ha
      exact ⟨g, c, w1, rfl, k1, k2, hl, hF, hb⟩
  refine Kd.event_run hgd (v := .slice (some ⟨g, 0, none⟩) (bytesL s).length c) ?_ (h g c w1 h1 h2 h3 h4 h5)
  simp [execOp, ho, hx, hrun, Result.andThen]
end
theorem strOfNums_bytes (xs : List Int) : (strOfNums xs).size = xs.length := by
  unfold strOfNums
  simp [ByteArray.size]
namespace Kd
section
variable {α : Type} {d : Kd α} {e base g : Nat} {ok : Nat → Prop} {w : World} {v : Value} {xs : List α}
theorem SN (h : S d e w base ok v xs) : N d e w base ok v xs := R_N (S_R h)
end
end Kd
end Go.Proofs.YtkijlpiiiejjkaaW.PrintWords
