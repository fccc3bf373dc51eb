-- Of the words, what this claim uses: laid by a program of this session.
/- Trees of pointers: a node is a block of three cells (a kind, a name, a row of pointers to nodes). What is read (K), with its footprint (FK), and how a node is made. -/
import Derived.Test.YtkijlpiiiejjkaaVN
import Derived.Test.YtkijlpiiiejjkaaVFoot
import Derived.StillTailTactics
namespace Go.Proofs.YtkijlpiiiejjkaaW.PrintWords
open Go.RowKit Go.Lib
set_option linter.unusedVariables false
/-- A condition as a tree. -/
inductive CT where
  | node (kind : Int) (name : ByteArray) (kids : List CT) : CT
namespace CT
def kind : CT → Int | node k _ _ => k
def name : CT → ByteArray | node _ n _ => n
def kids : CT → List CT | node _ _ ks => ks
end CT
namespace Kd
/-- A pointer to a block of its own kind (type t). -/
def ptr {α : Type} (t : Nat) (d : Kd α) : Kd α where
  sz := 1
  E := t :: d.E
  K := fun w x cs => ∃ b cells, cs = [.pointer (some ⟨b, 0, none⟩)] ∧ w.heap[b]? = some (.cells cells t (0, 0)) ∧ d.K w x cells.toList
  M := fun w base ok x cs => ∃ b cells, cs = [.pointer (some ⟨b, 0, none⟩)] ∧ ok b ∧ base ≤ b ∧ w.heap[b]? = some (.cells cells t (0, 0)) ∧ d.M w base ok x cells.toList
  K_len := by
    rintro w x cs ⟨b, cells, rfl, _⟩
    rfl
  K_one := by
    rintro w x cs ⟨b, cells, rfl, _⟩ u hu
    rw [List.mem_singleton.1 hu]
    rfl
  K_below := by
    rintro w w1 x cs hb ⟨b, cells, rfl, h1, h2⟩
    refine ⟨b, cells, rfl, ?_, d.K_below hb h2⟩
    rw [hb.block b (Array.getElem?_eq_some_iff.1 h1).1]
    exact h1
  K_of_M := by
    rintro w base ok x cs ⟨b, cells, rfl, _, _, h1, h2⟩
    exact ⟨b, cells, rfl, h1, d.K_of_M h2⟩
  M_mono := by
    rintro w base ok ok' x cs hok ⟨b, cells, rfl, h0, hb, h1, h2⟩
    exact ⟨b, cells, rfl, hok _ h0, hb, h1, d.M_mono hok h2⟩
  M_bound := by
    rintro w base ok x cs ⟨b, cells, rfl, h0, hb, h1, h2⟩
    refine ⟨b, cells, rfl, ⟨h0, hb, (Array.getElem?_eq_some_iff.1 h1).1, t, List.mem_cons_self, cells, h1⟩, hb, h1, d.M_mono ?_ (d.M_bound h2)⟩
    rintro k ⟨k1, k2, k3, q, hq, hc⟩
    exact ⟨k1, k2, k3, q, List.mem_cons_of_mem _ hq, hc⟩
  M_move := by
    rintro w w1 base ok x cs hm ⟨b, cells, rfl, h0, hb, h1, h2⟩
    exact ⟨b, cells, rfl, h0, hb, (hm b h0).trans h1, d.M_move hm h2⟩
  M_lower := by
    rintro w base base' ok x cs hb ⟨b, cells, rfl, h0, hb', h1, h2⟩
    exact ⟨b, cells, rfl, h0, Nat.le_trans hb hb', h1, d.M_lower hb h2⟩
/-- One level of the tree. -/
def ctF (T e : Nat) (d : Kd CT) : Kd CT := ptr T (iso (pair (int .i64) (pair string (slice e d))) (fun t : CT => (t.kind, t.name, t.kids)))
theorem ctF_sz (T e : Nat) : ∀ n, (upto (ctF T e) 1 [T, e] n).sz = 1
  | 0 => rfl
  | _ + 1 => rfl
theorem ctF_E (T e : Nat) : ∀ n q, q ∈ (upto (ctF T e) 1 [T, e] n).E → q ∈ [T, e]
  | 0, _, hq => hq
  | n + 1, q, hq => by
    have hq' : q ∈ T :: ([] ++ ([] ++ (e :: (upto (ctF T e) 1 [T, e] n).E))) := hq
    simp only [List.nil_append, List.mem_cons] at hq'
    rcases hq' with rfl | rfl | hq'
    · simp
    · simp
    · exact ctF_E T e n q hq'
/-- A tree of conditions: pointers to blocks of type T, rows of type e. -/
def ct (T e : Nat) : Kd CT := fix (ctF T e) 1 [T, e] (ctF_sz T e) (ctF_E T e)
section
variable {T e : Nat} {w w1 W : World} {ok ok' : Nat → Prop} {t : CT} {v : Value} {cs : List Value}
/-- A node's cells. -/
def NodeAt (T e : Nat) (w : World) (t : CT) (b : Nat) (A : Option Addr) (c : Nat) : Prop :=
  w.heap[b]? = some (.cells #[.int .i64 t.kind, .string t.name, .slice A t.kids.length c] T (0, 0)) ∧ t.kids.length ≤ c ∧ (ct T e).C w A t.kids.length t.kids
end
end Kd
/-- Only block g is another one. -/
structure Put (g : Nat) (w w' : World) : Prop where
  os : w'.os = w.os
  tape : w'.tape = w.tape
  output : w'.output = w.output
  size : w'.heap.size = w.heap.size
  block : ∀ k, k ≠ g → w'.heap[k]? = w.heap[k]?
section
variable {P : Program} {ops : Array Oper} {rest : List Oper} {o : Oper} {a : Act} {Q : Exit → Act → World → Prop}
/-- A store into a block whose cells are known: the world is a letter behind it. -/
theorem store_box {W : World} (hgd : o.guard = none) {t : TypeId} {p : Tmp} {v : Operand} (ho : o.op = .store t (.tmp p) v) (hN : o.dst = none) {g off : Nat} {e : TypeId} {cs cs' : Array Value} {u : Value}
    (ha : a.eval (.tmp p) = .pointer (some ⟨g, off, none⟩)) (hx : a.eval v = u) (ht : (P.info? t).map (·.size) = some u.cells.toList.length) (h1 : ∀ q ∈ u.cells.toList, q.oneCell' = true) (hb : W.heap[g]? = some (.cells cs e (0, 0)))
    (hfit : off + u.cells.toList.length ≤ cs.size) (hc : cs' = (cs.toList.take off ++ u.cells.toList ++ cs.toList.drop (off + u.cells.toList.length)).toArray)
    (h : ∀ w', w'.heap[g]? = some (.cells cs' e (0, 0)) → Put g W w' → wpList P ops Q rest a w') : wpList P ops Q (o :: rest) a W := by
  have hrun := run_store_run (P := P) t u u.cells.toList hb rfl ht hfit h1
  obtain ⟨s1, s2, s3, s4⟩ := setCells_same g u.cells.toList off W
  obtain ⟨cur', r1, r2, r3⟩ := setCells_row (e := e) u.cells.toList off W cs hb hfit
  have hc' : cs' = cur' := by rw [hc, ← r3]
  refine store_event hgd ho hN (w1 := W.setCells g off u.cells.toList) ?_ ?_
  · simp [execOp, ho, ha, hx, hrun, Result.andThen]
  · rintro w' rfl
    exact h _ (hc' ▸ r1) ⟨s1, s2, s3, s4, fun k hk => setCells_far _ _ k hk⟩
end
end Go.Proofs.YtkijlpiiiejjkaaW.PrintWords
