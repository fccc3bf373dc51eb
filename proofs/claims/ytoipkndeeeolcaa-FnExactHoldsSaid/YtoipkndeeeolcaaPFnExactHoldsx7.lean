-- Laid by a program of this session: a turned copy of the kit's print, with contracts by hand beside.
import Derived.Test.YtoipkndeeeolcaaPFnExactHoldsx0
import Derived.Test.YtoipkndeeeolcaaPFnExactHoldsx6
namespace Go.Proofs.Ytoipkndeeeolcaa.PFnExactHolds
open Go.RowKit Go.Proofs.YtoipkndeeeolcaaW.PrintWords Go.Proofs.YtoipkndeeeolcaaW.PrintLast Go.Proofs.YtoipkndeeeolcaaW.PrintMore
attribute [local go_sem] max2_int min2_int max_two min_two max_three min_three max_four min_four   -- for this text's walks alone
set_option linter.unusedVariables false
set_option linter.unusedSimpArgs false

/-! ### impl_Holds: function 16 -/
def ctKids (f : Int → Option (Option CT × Int)) : Nat → Int → Int → List CT → Option (Option (List CT) × Int)
  | 0, _, _, _ => none
  | k + 1, stop, i, acc => if i < stop then (if acc.length < 1000000 then (f i).bind fun t => (match t.1 with | none => some (none, t.2) | some x => ctKids f k stop t.2 (acc ++ [x])) else none) else some (some acc, i)
def ctOk (k : Nat) (c : S45) (n : Int) : Option Bool := if c.f0 = 1 then (if n = 0 then (impl_NameOk.f k c.f1).bind fun t => some (t && (c.f1.toList != [116, 114, 117, 101]) && (c.f1.toList != [102, 97, 108, 115, 101])) else some false) else if c.f0 = 2 then some ((n == 0) && (c.f1.toList == [])) else if c.f0 = 3 then some ((n == 0) && (c.f1.toList == [])) else if c.f0 = 4 then some ((n == 1) && (c.f1.toList == [])) else if c.f0 = 5 then some (decide (2 ≤ n) && (c.f1.toList == [])) else if c.f0 = 6 then some (decide (2 ≤ n) && (c.f1.toList == [])) else some false
def ctEnd (k : Nat) (c : S45) (t : Option (List CT) × Int) : Option (Option CT × Int) := match t.1 with | none => some (none, t.2) | some ks => (ctOk k c (ks.length : Int)).bind fun b => some (if b = true then some (.node c.f0 c.f1 ks) else none, t.2)
def ctTake : Nat → List S45 → Int → Int → Int → Option (Option CT × Int)
  | 0, _, _, _, _ => none
  | k + 1, cs, d, e, i => if e ≤ i then some (none, i) else if 60 < d then some (none, i) else if 0 ≤ i ∧ i < (cs.length : Int) then (if (rd_T45 cs i).f2 < 0 then some (none, i) else if wrap64 ((wrap64 (e - i)) - 1) < (rd_T45 cs i).f2 then some (none, i) else (ctKids (fun j => ctTake k cs (wrap64 (d + 1)) (wrap64 ((wrap64 (i + 1)) + (rd_T45 cs i).f2)) j) k (wrap64 ((wrap64 (i + 1)) + (rd_T45 cs i).f2)) (wrap64 (i + 1)) []).bind fun t => ctEnd k (rd_T45 cs i) t) else none
def impl_condTree.f (k : Nat) (l0 : List S45) : Option (Option CT) := if (l0.length : Int) > 300 then some none else (ctTake k l0 0 (l0.length : Int) 0).bind fun t => if t.2 = (l0.length : Int) then some t.1 else some none
theorem ctKids_mono {f g : Int → Option (Option CT × Int)} (h : ∀ j, LeO (f j) (g j)) : ∀ k stop i acc, LeO (ctKids f k stop i acc) (ctKids g (k + 1) stop i acc)
  | 0, _, _, _ => fun r h => by simp [ctKids] at h
  | k + 1, stop, i, acc => by
    unfold ctKids
    refine LeO.ite (LeO.ite (LeO.bind (h _) fun t => ?_) (LeO.refl _)) (LeO.refl _)
    cases t.1 with
    | none => exact LeO.refl _
    | some x => exact ctKids_mono h k _ _ _
theorem ctOk_mono (k : Nat) (c : S45) (n : Int) : LeO (ctOk k c n) (ctOk (k + 1) c n) := by
  unfold ctOk
  exact LeO.ite (LeO.ite (LeO.bind (impl_NameOk.mono _ _) fun _ => LeO.refl _) (LeO.refl _)) (LeO.refl _)
theorem ctTake_mono : ∀ k cs d e i, LeO (ctTake k cs d e i) (ctTake (k + 1) cs d e i)
  | 0, _, _, _, _ => fun r h => by simp [ctTake] at h
  | k + 1, cs, d, e, i => by
    rw [ctTake, ctTake]
    refine LeO.ite (LeO.refl _) (LeO.ite (LeO.refl _) (LeO.ite (LeO.ite (LeO.refl _) (LeO.ite (LeO.refl _) (LeO.bind (ctKids_mono (fun j => ctTake_mono k cs _ _ j) k _ _ _) fun t => ?_))) (LeO.refl _)))
    unfold ctEnd
    cases t.1 with
    | none => exact LeO.refl _
    | some ks => exact LeO.bind (ctOk_mono _ _ _) fun _ => LeO.refl _
theorem impl_condTree.mono : ∀ a0 k, LeO (impl_condTree.f k a0) (impl_condTree.f (k + 1) a0) := by
  intro a0 k
  unfold impl_condTree.f
  exact LeO.ite (LeO.refl _) (LeO.bind (ctTake_mono _ _ _ _ _) fun _ => LeO.refl _)
/-- The closure's surroundings: the captured variables and the row. -/
def CtEnv (w : World) (gi gc gt : Nat) (A0 : Option Addr) (c0 : Nat) (cs : List S45) : Prop := gc ≠ gi ∧ gt ≠ gi ∧ gi < w.heap.size ∧ w.heap[gc]? = some (.cells #[.slice A0 cs.length c0] 25 (0, 0)) ∧ w.heap[gt]? = some (.cells #[.func (.func 46) #[] #[.pointer (some ⟨gi, 0, none⟩), .pointer (some ⟨gc, 0, none⟩), .pointer (some ⟨gt, 0, none⟩)]] 68 (0, 0)) ∧ cs.length ≤ c0 ∧ ∀ W', KeepBut w W' gi none → Kd.C k45 W' A0 cs.length cs
theorem CtEnv.step {w w1 : World} {gi gc gt : Nat} {A0 : Option Addr} {c0 : Nat} {cs : List S45} (h : CtEnv w gi gc gt A0 c0 cs) (hk : KeepBut w w1 gi none) : CtEnv w1 gi gc gt A0 c0 cs := by
  obtain ⟨h1, h2, h3, h4, h5, h6, h7⟩ := h
  refine ⟨h1, h2, Nat.lt_of_lt_of_le h3 hk.1, ?_, ?_, h6, fun W' hk' => h7 W' (hk.trans hk' (.inl rfl))⟩
  · rw [hk.2 gc (Array.getElem?_eq_some_iff.1 h4).1 h1 (by simp)]; exact h4
  · rw [hk.2 gt (Array.getElem?_eq_some_iff.1 h5).1 h2 (by simp)]; exact h5
def Kp (g : Nat) (w w' : World) : Prop := Below g w w' ∧ KeepBut w w' g none
theorem Kp.refl (g : Nat) (w : World) : Kp g w w := ⟨Below.refl _ _, KeepBut.refl _ _ _⟩
theorem Kp.trans {g : Nat} {w W W' : World} (h : Kp g w W) (h2 : Kp g W W') : Kp g w W' := ⟨h.1.trans h2.1, h.2.trans h2.2 (.inl rfl)⟩
theorem Kp.put {g b : Nat} {w W W' : World} (h : Kp g w W) (hp : Put b W W') (hb : w.heap.size ≤ b ∨ b = g) (hg : g < w.heap.size) : Kp g w W' := by
  have hs := h.2.1
  refine ⟨⟨hp.os.trans h.1.os, hp.tape.trans h.1.tape, hp.output.trans h.1.output, by rw [hp.size]; exact hs, fun k hk => (hp.block k (by omega)).trans (h.1.block k hk)⟩, by rw [hp.size]; exact hs, fun k hk hne hr => (hp.block k ?_).trans (h.2.2 k hk hne hr)⟩
  rcases hb with hb | rfl
  · omega
  · exact hne
theorem Kp.below {g : Nat} {w W W' : World} (h : Kp g w W) (hb : Below W.heap.size W W') (hg : g < w.heap.size) : Kp g w W' := by
  have hs := h.2.1
  exact ⟨h.1.trans (hb.mono (by omega)), Nat.le_trans hs hb.size, fun k hk hne hr => (hb.block k (by omega)).trans (h.2.2 k hk hne hr)⟩
theorem Kp.grown {g : Nat} {w W W' : World} (h : Kp g w W) {row : Option Nat} (hg : W.grownBy W' row) (hr : ∀ k, row = some k → w.heap.size ≤ k) (hl : g < w.heap.size) : Kp g w W' := by
  have hs := h.2.1
  have hne : ∀ k, k < w.heap.size → some k ≠ row := fun k hk e => by have := hr k e.symm; omega
  exact ⟨⟨hg.os.trans h.1.os, hg.tape.trans h.1.tape, hg.output.trans h.1.output, Nat.le_trans hs hg.size, fun k hk => (hg.block k (by omega) (hne k (by omega))).trans (h.1.block k hk)⟩, Nat.le_trans hs hg.size, fun k hk hne' hr' => (hg.block k (by omega) (hne k hk)).trans (h.2.2 k hk hne' hr')⟩
/-- What the closure hands back. -/
def CtRes (w w' : World) (v : Value) : Option CT → Prop
  | none => v = .pointer none
  | some t => Kd.FK (Kd.ct 71 47) w' (fun k => w.heap.size ≤ k) t [v]
def CtPost (gi : Nat) (w : World) (r : Option CT) (j : Int) (e : Ending) (w' : World) : Prop := ∃ v, e = .returned v ∧ CtRes w w' v r ∧ w'.heap[gi]? = some (.cells #[.int .i64 j] 3 (0, 0)) ∧ Kp gi w w'
theorem Put.cell {w : World} (g j : Nat) (u : Value) : Put g w (w.setCell ⟨g, j, none⟩ u) := ⟨rfl, rfl, rfl, by simp [World.setCell], fun k hk => Below.heap_setCell w ⟨g, j, none⟩ u k hk⟩
/-- Midway: the node's copy and its box, the kids so far. -/
structure CtSt (gi gc gt : Nat) (A0 : Option Addr) (c0 : Nat) (cs : List S45) (w W : World) (i : Int) (gb : Nat) (c : S45) : Prop where
  env0 : CtEnv w gi gc gt A0 c0 cs
  hi : W.heap[gi]? = some (.cells #[.int .i64 i] 3 (0, 0))
  hc : W.heap[gb]? = some (.cells #[.int .i64 c.f0, .string c.f1, .int .i64 c.f2] 45 (0, 0))
  kp : Kp gi w W
  ib : w.heap.size ≤ gb
theorem CtSt.ig {gi gc gt : Nat} {A0 : Option Addr} {c0 : Nat} {cs : List S45} {w W : World} {i : Int} {gb : Nat} {c : S45} (h : CtSt gi gc gt A0 c0 cs w W i gb c) : gi < w.heap.size := h.env0.2.2.1
theorem CtSt.env {gi gc gt : Nat} {A0 : Option Addr} {c0 : Nat} {cs : List S45} {w W : World} {i : Int} {gb : Nat} {c : S45} (h : CtSt gi gc gt A0 c0 cs w W i gb c) : CtEnv W gi gc gt A0 c0 cs := h.env0.step h.kp.2
structure CtStX (gi gc gt : Nat) (A0 : Option Addr) (c0 : Nat) (cs : List S45) (w W : World) (i : Int) (gb gx : Nat) (c : S45) (v : Value) (ks : List CT) : Prop extends CtSt gi gc gt A0 c0 cs w W i gb c where
  hx : W.heap[gx]? = some (.cells #[.int .i64 c.f0, .string c.f1, v] 71 (0, 0))
  hn : Kd.N (Kd.ct 71 47) 47 W w.heap.size (fun k => w.heap.size ≤ k ∧ k ≠ gx ∧ k ≠ gb) v ks
  ix : w.heap.size ≤ gx
theorem CtSt.fin {gi gc gt : Nat} {A0 : Option Addr} {c0 : Nat} {cs : List S45} {w W : World} {i : Int} {gb : Nat} {c : S45} (h : CtSt gi gc gt A0 c0 cs w W i gb c) {v : Value} (hv : v = .pointer none) : CtPost gi w none i (.returned v) W := ⟨_, rfl, hv, h.hi, h.kp⟩
theorem CtStX.fin {gi gc gt : Nat} {A0 : Option Addr} {c0 : Nat} {cs : List S45} {w W : World} {i : Int} {gb gx : Nat} {c : S45} {v u : Value} {ks : List CT} (h : CtStX gi gc gt A0 c0 cs w W i gb gx c v ks) (hu : u = .pointer none) : CtPost gi w none i (.returned u) W := h.toCtSt.fin hu
theorem CtStX.node {gi gc gt : Nat} {A0 : Option Addr} {c0 : Nat} {cs : List S45} {w W : World} {i : Int} {gb gx : Nat} {c : S45} {v u : Value} {ks : List CT} (h : CtStX gi gc gt A0 c0 cs w W i gb gx c v ks) (hu : u = .pointer (some ⟨gx, 0, none⟩)) : CtPost gi w (some (.node c.f0 c.f1 ks)) i (.returned u) W := by
  obtain ⟨A, cc, rfl⟩ := Kd.N_slice h.hn
  have hr := Kd.N_reads' h.hn
  refine ⟨_, rfl, ?_, h.hi, h.kp⟩
  rw [hu]
  exact Kd.ct_FK_mk (t := CT.node c.f0 c.f1 ks) h.ix h.hx hr.2.1 (Kd.F_mono (Kd.N_F h.hn) (fun k hk => hk.1))
/-- The copy is laid. -/
theorem CtSt.mk1 {gi gc gt : Nat} {A0 : Option Addr} {c0 : Nat} {cs : List S45} {w w2 w3 : World} {i : Int} {gb : Nat} {c : S45} (hE : CtEnv w gi gc gt A0 c0 cs) (hI : w.heap[gi]? = some (.cells #[.int .i64 i] 3 (0, 0))) (hg : gb = w.heap.size) (hb : Below w.heap.size w w2)
    (hc : w3.heap[gb]? = some (.cells #[.int .i64 c.f0, .string c.f1, .int .i64 c.f2] 45 (0, 0))) (hp : Put gb w2 w3) : CtSt gi gc gt A0 c0 cs w w3 i gb c := by
  have ig := hE.2.2.1
  have kp := (((Kp.refl gi w).below hb ig).put hp (.inl (by omega)) ig)
  exact ⟨hE, by rw [hp.block gi (by omega), hb.block gi ig]; exact hI, hc, kp, by omega⟩
/-- The counter is written. -/
theorem CtSt.setI {gi gc gt : Nat} {A0 : Option Addr} {c0 : Nat} {cs : List S45} {w W W' : World} {i i' : Int} {gb : Nat} {c : S45} (h : CtSt gi gc gt A0 c0 cs w W i gb c) (hi : W'.heap[gi]? = some (.cells #[.int .i64 i'] 3 (0, 0))) (hp : Put gi W W') : CtSt gi gc gt A0 c0 cs w W' i' gb c :=
  ⟨h.env0, hi, by rw [hp.block gb (by have := h.ib; have := h.ig; omega)]; exact h.hc, h.kp.put hp (.inr rfl) h.ig, h.ib⟩
/-- The node's box is laid. -/
theorem CtSt.box {gi gc gt : Nat} {A0 : Option Addr} {c0 : Nat} {cs : List S45} {w W W' : World} {i : Int} {gb gx : Nat} {c : S45} (h : CtSt gi gc gt A0 c0 cs w W i gb c) (hg : gx = W.heap.size) (hx : W'.heap[gx]? = some (.cells #[.int .i64 c.f0, .string c.f1, .slice none 0 0] 71 (0, 0))) (hb : Below W.heap.size W W') :
    CtStX gi gc gt A0 c0 cs w W' i gb gx c (.slice none 0 0) [] :=
  ⟨⟨h.env0, blk_below h.hi hb, blk_below h.hc hb, h.kp.below hb h.ig, h.ib⟩, hx, Kd.N_nil _ _ _ _ _, by rw [hg]; exact h.kp.2.1⟩
/-- A kid was read. -/
theorem CtStX.call {gi gc gt : Nat} {A0 : Option Addr} {c0 : Nat} {cs : List S45} {w W W' : World} {i j : Int} {gb gx : Nat} {c : S45} {v : Value} {ks : List CT} (h : CtStX gi gc gt A0 c0 cs w W i gb gx c v ks) (hi : W'.heap[gi]? = some (.cells #[.int .i64 j] 3 (0, 0))) (hk : Kp gi W W') :
    CtStX gi gc gt A0 c0 cs w W' j gb gx c v ks := by
  have ib := h.ib; have ig := h.ig; have ix := h.ix
  exact ⟨⟨h.env0, hi, by rw [hk.2.2 gb (blk_lt h.hc) (by omega) (by simp)]; exact h.hc, h.kp.trans hk, ib⟩, by rw [hk.2.2 gx (blk_lt h.hx) (by omega) (by simp)]; exact h.hx, Kd.N_keep h.hn hk.2 (fun k hk => by omega), ix⟩
/-- A kid was appended. -/
theorem CtStX.app {gi gc gt : Nat} {A0 : Option Addr} {c0 : Nat} {cs : List S45} {w W W' : World} {i : Int} {gb gx : Nat} {c : S45} {v v1 : Value} {ks ks1 : List CT} (h : CtStX gi gc gt A0 c0 cs w W i gb gx c v ks) (hn : Kd.N (Kd.ct 71 47) 47 W' w.heap.size (fun k => w.heap.size ≤ k ∧ k ≠ gx ∧ k ≠ gb) v1 ks1) (hg : W.grownBy W' v.ownBlock) :
    CtStX gi gc gt A0 c0 cs w (W'.setCell ⟨gx, 2, none⟩ v1) i gb gx c v1 ks1 := by
  have ib := h.ib; have ig := h.ig; have ix := h.ix
  have hr : ∀ k, v.ownBlock = some k → w.heap.size ≤ k ∧ k ≠ gx ∧ k ≠ gb := h.hn.1
  have hp := Put.cell (w := W') gx 2 v1
  have hxb : gx ≠ gb := blk_ne h.hx h.hc (by decide)
  have ni : some gi ≠ v.ownBlock := fun e => by have := hr gi e.symm; omega
  have nb : some gb ≠ v.ownBlock := fun e => (hr gb e.symm).2.2 rfl
  have nx : some gx ≠ v.ownBlock := fun e => (hr gx e.symm).2.1 rfl
  have hx' := blk_grown h.hx hg nx
  refine ⟨⟨h.env0, ?_, ?_, (h.kp.grown hg (fun k hk => (hr k hk).1) ig).put hp (.inl ix) ig, ib⟩, blk_put hx' 2 v1 rfl, Kd.N_far hn (fun k hk => hk.2.1) v1, ix⟩
  · rw [hp.block gi (by omega)]; exact blk_grown h.hi hg ni
  · rw [hp.block gb (fun e => hxb e.symm)]; exact blk_grown h.hc hg nb
theorem CtStX.drawn {gi gc gt : Nat} {A0 : Option Addr} {c0 : Nat} {cs : List S45} {w W W' : World} {i : Int} {gb gx : Nat} {c : S45} {v : Value} {ks : List CT} (h : CtStX gi gc gt A0 c0 cs w W i gb gx c v ks) (hd : Drawn0 W W') : CtStX gi gc gt A0 c0 cs w W' i gb gx c v ks := by
  obtain ⟨n, rfl⟩ := hd
  exact ⟨⟨h.env0, h.hi, h.hc, h.kp.below (pw_below_drewN (Below.refl _ _) n) h.ig, h.ib⟩, h.hx, Kd.N_drewN h.hn n, h.ix⟩

set_option maxHeartbeats 8000000 in
set_option maxRecDepth 100000 in
theorem ct_take (k : Nat) : ∀ (gi gc gt : Nat) (A0 : Option Addr) (c0 : Nat) (cs : List S45) (d e i : Int) (r : Option CT) (j : Int) (w : World), CtEnv w gi gc gt A0 c0 cs → w.heap[gi]? = some (.cells #[.int .i64 i] 3 (0, 0)) → ctTake k cs d e i = some (r, j) →
    Calls Try.prog 46 #[.int .i64 d, .int .i64 e, .pointer (some ⟨gi, 0, none⟩), .pointer (some ⟨gc, 0, none⟩), .pointer (some ⟨gt, 0, none⟩)] w (CtPost gi w r j) := by
  induction k with
  | zero => intro gi gc gt A0 c0 cs d e i r j w _ _ h; simp [ctTake] at h
  | succ k ih =>
  intro gi gc gt A0 c0 cs d e i r j w hE hI h
  rw [ctTake] at h
  have HE := Aside0.mk hE
  have HI := Aside0.mk hI
  have ki_ : w.cell? ⟨gi, 0, none⟩ = some (.int .i64 i) := (blk_cell hI 0).trans rfl
  have kc_ : w.cell? ⟨gc, 0, none⟩ = some (.slice A0 cs.length c0) := (blk_cell hE.2.2.2.1 0).trans rfl
  clear hE hI
  by_cases c1 : e ≤ i
  · rw [if_pos c1] at h
    obtain ⟨rfl, rfl⟩ : none = r ∧ i = j := by simpa using h
    clear h
    have b1 : decide (e ≤ i) = true := decide_eq_true c1
    clear c1
    go_enter Try.func46, Try.ntmps46
    go_wp2
    go_ret
    exact ⟨_, rfl, rfl, HI.out, Kp.refl _ _⟩
  rw [if_neg c1] at h
  have b1 : decide (e ≤ i) = false := decide_eq_false c1
  clear c1
  by_cases c2 : 60 < d
  · rw [if_pos c2] at h
    obtain ⟨rfl, rfl⟩ : none = r ∧ i = j := by simpa using h
    clear h
    have b2 : decide (60 < d) = true := decide_eq_true c2
    clear c2
    go_enter Try.func46, Try.ntmps46
    go_wp2
    go_ret
    exact ⟨_, rfl, rfl, HI.out, Kp.refl _ _⟩
  rw [if_neg c2] at h
  have b2 : decide (60 < d) = false := decide_eq_false c2
  clear c2
  by_cases c3 : 0 ≤ i ∧ i < (cs.length : Int)
  case neg => rw [if_neg c3] at h; simp at h
  rw [if_pos c3] at h
  obtain ⟨ad, e_, hx0, hx1, hx2⟩ := at_T45 (HE.out.2.2.2.2.2.2 _ (KeepBut.refl _ _ _)) i c3.1 c3.2
  subst e_
  have p3 := eq_true c3.1
  have q3 := eq_true c3.2
  clear c3
  by_cases c4 : (rd_T45 cs i).f2 < 0
  · rw [if_pos c4] at h
    obtain ⟨rfl, rfl⟩ : none = r ∧ i = j := by simpa using h
    clear h
    have b4 : decide ((rd_T45 cs i).f2 < 0) = true := decide_eq_true c4
    clear c4
    go_enter Try.func46, Try.ntmps46
    go_wp2_with (first | ((with_reducible refine gate_dst (N := 8) rfl ?_); refine box_event ?allocC_hg (N := 8) ?allocC_hd (cs := #[.int .i64 0, .string (⟨#[]⟩ : ByteArray), .int .i64 0]) (t := 45) ?allocC_hr ?_; (case allocC_hd => rfl); (case allocC_hg => rfl); (case allocC_hr => first | (go_simp; done) | (go_simp; rfl)); intro gb hg_ w2 hb_ hw_; have BZ := Aside0.mk hb_; have BL := Aside0.mk hw_; have BG := Aside0.mk hg_; clear hb_ hw_ hg_; refine store_box (t := 45) (p := 8) (v := .tmp 24) (g := gb) (off := 0) ?storeC_hg ?storeC_ho ?storeC_hN (cs' := #[.int .i64 (rd_T45 cs i).f0, .string (rd_T45 cs i).f1, .int .i64 (rd_T45 cs i).f2]) (u := .agg #[.int .i64 (rd_T45 cs i).f0, .string (rd_T45 cs i).f1, .int .i64 (rd_T45 cs i).f2]) ?storeC_ha ?storeC_hx ?storeC_ht ?storeC_h1 BZ.out ?storeC_hf ?storeC_hc ?_; (case storeC_hg => rfl); (case storeC_ho => rfl); (case storeC_hN => rfl); (case storeC_ha => rfl); (case storeC_hx => first | rfl | (go_simp; done) | (go_simp; rfl)); (case storeC_ht => kernel_rfl); (case storeC_h1 => intro q_ hq_; simp [Value.cells] at hq_; rcases hq_ with rfl | rfl | rfl <;> rfl); (case storeC_hf => exact Nat.le_refl _); (case storeC_hc => rfl); intro w3 hb_ hp_; have HS := Aside0.mk (CtSt.mk1 HE.out HI.out BG.out BL.out hb_ hp_); clear hb_ hp_ BZ BL BG HI HE; (try clear ki_); (try clear kc_); (try clear kt_); (try clear kb0_ kb1_ kb2_); (try clear kx0_ kx1_ kx2_); have ki_ : w3.cell? ⟨gi, 0, none⟩ = some (.int .i64 i) := (blk_cell HS.out.hi 0).trans rfl; have kc_ : w3.cell? ⟨gc, 0, none⟩ = some (.slice (some ad) cs.length c0) := (blk_cell HS.out.env.2.2.2.1 0).trans rfl; have kt_ : w3.cell? ⟨gt, 0, none⟩ = some (.func (.func 46) #[] #[.pointer (some ⟨gi, 0, none⟩), .pointer (some ⟨gc, 0, none⟩), .pointer (some ⟨gt, 0, none⟩)]) := (blk_cell HS.out.env.2.2.2.2.1 0).trans rfl; have kb0_ : w3.cell? ⟨gb, 0, none⟩ = some (.int .i64 (rd_T45 cs i).f0) := (blk_cell HS.out.hc 0).trans rfl; have kb1_ : w3.cell? ⟨gb, 1, none⟩ = some (.string (rd_T45 cs i).f1) := (blk_cell HS.out.hc 1).trans rfl; have kb2_ : w3.cell? ⟨gb, 2, none⟩ = some (.int .i64 (rd_T45 cs i).f2) := (blk_cell HS.out.hc 2).trans rfl))
    go_ret
    exact HS.out.fin rfl
  rw [if_neg c4] at h
  have b4 : decide ((rd_T45 cs i).f2 < 0) = false := decide_eq_false c4
  clear c4
  by_cases c5 : wrap64 ((wrap64 (e - i)) - 1) < (rd_T45 cs i).f2
  · rw [if_pos c5] at h
    obtain ⟨rfl, rfl⟩ : none = r ∧ i = j := by simpa using h
    clear h
    have b5 : decide (wrap64 ((wrap64 (e - i)) - 1) < (rd_T45 cs i).f2) = true := decide_eq_true c5
    clear c5
    go_enter Try.func46, Try.ntmps46
    go_wp2_with (first | ((with_reducible refine gate_dst (N := 8) rfl ?_); refine box_event ?allocC_hg (N := 8) ?allocC_hd (cs := #[.int .i64 0, .string (⟨#[]⟩ : ByteArray), .int .i64 0]) (t := 45) ?allocC_hr ?_; (case allocC_hd => rfl); (case allocC_hg => rfl); (case allocC_hr => first | (go_simp; done) | (go_simp; rfl)); intro gb hg_ w2 hb_ hw_; have BZ := Aside0.mk hb_; have BL := Aside0.mk hw_; have BG := Aside0.mk hg_; clear hb_ hw_ hg_; refine store_box (t := 45) (p := 8) (v := .tmp 24) (g := gb) (off := 0) ?storeC_hg ?storeC_ho ?storeC_hN (cs' := #[.int .i64 (rd_T45 cs i).f0, .string (rd_T45 cs i).f1, .int .i64 (rd_T45 cs i).f2]) (u := .agg #[.int .i64 (rd_T45 cs i).f0, .string (rd_T45 cs i).f1, .int .i64 (rd_T45 cs i).f2]) ?storeC_ha ?storeC_hx ?storeC_ht ?storeC_h1 BZ.out ?storeC_hf ?storeC_hc ?_; (case storeC_hg => rfl); (case storeC_ho => rfl); (case storeC_hN => rfl); (case storeC_ha => rfl); (case storeC_hx => first | rfl | (go_simp; done) | (go_simp; rfl)); (case storeC_ht => kernel_rfl); (case storeC_h1 => intro q_ hq_; simp [Value.cells] at hq_; rcases hq_ with rfl | rfl | rfl <;> rfl); (case storeC_hf => exact Nat.le_refl _); (case storeC_hc => rfl); intro w3 hb_ hp_; have HS := Aside0.mk (CtSt.mk1 HE.out HI.out BG.out BL.out hb_ hp_); clear hb_ hp_ BZ BL BG HI HE; (try clear ki_); (try clear kc_); (try clear kt_); (try clear kb0_ kb1_ kb2_); (try clear kx0_ kx1_ kx2_); have ki_ : w3.cell? ⟨gi, 0, none⟩ = some (.int .i64 i) := (blk_cell HS.out.hi 0).trans rfl; have kc_ : w3.cell? ⟨gc, 0, none⟩ = some (.slice (some ad) cs.length c0) := (blk_cell HS.out.env.2.2.2.1 0).trans rfl; have kt_ : w3.cell? ⟨gt, 0, none⟩ = some (.func (.func 46) #[] #[.pointer (some ⟨gi, 0, none⟩), .pointer (some ⟨gc, 0, none⟩), .pointer (some ⟨gt, 0, none⟩)]) := (blk_cell HS.out.env.2.2.2.2.1 0).trans rfl; have kb0_ : w3.cell? ⟨gb, 0, none⟩ = some (.int .i64 (rd_T45 cs i).f0) := (blk_cell HS.out.hc 0).trans rfl; have kb1_ : w3.cell? ⟨gb, 1, none⟩ = some (.string (rd_T45 cs i).f1) := (blk_cell HS.out.hc 1).trans rfl; have kb2_ : w3.cell? ⟨gb, 2, none⟩ = some (.int .i64 (rd_T45 cs i).f2) := (blk_cell HS.out.hc 2).trans rfl))
    go_ret
    exact HS.out.fin rfl
  rw [if_neg c5] at h
  have b5 : decide (wrap64 ((wrap64 (e - i)) - 1) < (rd_T45 cs i).f2) = false := decide_eq_false c5
  clear c5
  obtain ⟨⟨ok, j1⟩, h1, h2⟩ := Option.bind_eq_some_iff.mp h
  clear h
  have H1 := Aside0.mk h1
  have H2 := Aside0.mk h2
  clear h1 h2
  go_enter Try.func46, Try.ntmps46
  go_wp2_with (first | ((with_reducible refine gate_dst (N := 8) rfl ?_); refine box_event ?allocC_hg (N := 8) ?allocC_hd (cs := #[.int .i64 0, .string (⟨#[]⟩ : ByteArray), .int .i64 0]) (t := 45) ?allocC_hr ?_; (case allocC_hd => rfl); (case allocC_hg => rfl); (case allocC_hr => first | (go_simp; done) | (go_simp; rfl)); intro gb hg_ w2 hb_ hw_; have BZ := Aside0.mk hb_; have BL := Aside0.mk hw_; have BG := Aside0.mk hg_; clear hb_ hw_ hg_; refine store_box (t := 45) (p := 8) (v := .tmp 24) (g := gb) (off := 0) ?storeC_hg ?storeC_ho ?storeC_hN (cs' := #[.int .i64 (rd_T45 cs i).f0, .string (rd_T45 cs i).f1, .int .i64 (rd_T45 cs i).f2]) (u := .agg #[.int .i64 (rd_T45 cs i).f0, .string (rd_T45 cs i).f1, .int .i64 (rd_T45 cs i).f2]) ?storeC_ha ?storeC_hx ?storeC_ht ?storeC_h1 BZ.out ?storeC_hf ?storeC_hc ?_; (case storeC_hg => rfl); (case storeC_ho => rfl); (case storeC_hN => rfl); (case storeC_ha => rfl); (case storeC_hx => first | rfl | (go_simp; done) | (go_simp; rfl)); (case storeC_ht => kernel_rfl); (case storeC_h1 => intro q_ hq_; simp [Value.cells] at hq_; rcases hq_ with rfl | rfl | rfl <;> rfl); (case storeC_hf => exact Nat.le_refl _); (case storeC_hc => rfl); intro w3 hb_ hp_; have HS := Aside0.mk (CtSt.mk1 HE.out HI.out BG.out BL.out hb_ hp_); clear hb_ hp_ BZ BL BG HI HE; (try clear ki_); (try clear kc_); (try clear kt_); (try clear kb0_ kb1_ kb2_); (try clear kx0_ kx1_ kx2_); have ki_ : w3.cell? ⟨gi, 0, none⟩ = some (.int .i64 i) := (blk_cell HS.out.hi 0).trans rfl; have kc_ : w3.cell? ⟨gc, 0, none⟩ = some (.slice (some ad) cs.length c0) := (blk_cell HS.out.env.2.2.2.1 0).trans rfl; have kt_ : w3.cell? ⟨gt, 0, none⟩ = some (.func (.func 46) #[] #[.pointer (some ⟨gi, 0, none⟩), .pointer (some ⟨gc, 0, none⟩), .pointer (some ⟨gt, 0, none⟩)]) := (blk_cell HS.out.env.2.2.2.2.1 0).trans rfl; have kb0_ : w3.cell? ⟨gb, 0, none⟩ = some (.int .i64 (rd_T45 cs i).f0) := (blk_cell HS.out.hc 0).trans rfl; have kb1_ : w3.cell? ⟨gb, 1, none⟩ = some (.string (rd_T45 cs i).f1) := (blk_cell HS.out.hc 1).trans rfl; have kb2_ : w3.cell? ⟨gb, 2, none⟩ = some (.int .i64 (rd_T45 cs i).f2) := (blk_cell HS.out.hc 2).trans rfl) | ((with_reducible refine gate_dst (N := 43) rfl ?_); refine Kd.event_run ?si_g (v := .int .i64 (wrap64 (i + 1))) (w1 := w3) ?si_r ?_; (case si_g => rfl); (case si_r => first | (go_simp; done) | (go_simp; rfl) | (go_simp; simp only [i64_w]; done)); refine store_box (t := 3) (p := 2) (v := .tmp 43) (g := gi) (off := 0) ?storeI_hg ?storeI_ho ?storeI_hN (cs' := #[.int .i64 (wrap64 (i + 1))]) (u := .int .i64 (wrap64 (i + 1))) ?storeI_ha ?storeI_hx ?storeI_ht ?storeI_h1 HS.out.hi ?storeI_hf ?storeI_hc ?_; (case storeI_hg => rfl); (case storeI_ho => rfl); (case storeI_hN => rfl); (case storeI_ha => rfl); (case storeI_hx => first | rfl | (go_simp; done) | (go_simp; rfl)); (case storeI_ht => kernel_rfl); (case storeI_h1 => intro q_ hq_; simp [Value.cells] at hq_; subst hq_; rfl); (case storeI_hf => exact Nat.le_refl _); (case storeI_hc => rfl); intro w4 hb_ hp_; have HS2 := Aside0.mk (HS.out.setI hb_ hp_); clear hb_ hp_ HS; have HS := HS2; clear HS2; (try clear ki_); (try clear kc_); (try clear kt_); (try clear kb0_ kb1_ kb2_); (try clear kx0_ kx1_ kx2_); have ki_ : w4.cell? ⟨gi, 0, none⟩ = some (.int .i64 (wrap64 (i + 1))) := (blk_cell HS.out.hi 0).trans rfl; have kc_ : w4.cell? ⟨gc, 0, none⟩ = some (.slice (some ad) cs.length c0) := (blk_cell HS.out.env.2.2.2.1 0).trans rfl; have kt_ : w4.cell? ⟨gt, 0, none⟩ = some (.func (.func 46) #[] #[.pointer (some ⟨gi, 0, none⟩), .pointer (some ⟨gc, 0, none⟩), .pointer (some ⟨gt, 0, none⟩)]) := (blk_cell HS.out.env.2.2.2.2.1 0).trans rfl; have kb0_ : w4.cell? ⟨gb, 0, none⟩ = some (.int .i64 (rd_T45 cs i).f0) := (blk_cell HS.out.hc 0).trans rfl; have kb1_ : w4.cell? ⟨gb, 1, none⟩ = some (.string (rd_T45 cs i).f1) := (blk_cell HS.out.hc 1).trans rfl; have kb2_ : w4.cell? ⟨gb, 2, none⟩ = some (.int .i64 (rd_T45 cs i).f2) := (blk_cell HS.out.hc 2).trans rfl) | ((with_reducible refine gate_dst (N := 49) rfl ?_); refine box_event ?boxX_hg (N := 49) ?boxX_hd (cs := #[.int .i64 (rd_T45 cs i).f0, .string (rd_T45 cs i).f1, .slice none 0 0]) (t := 71) ?boxX_hr ?_; (case boxX_hd => rfl); (case boxX_hg => rfl); (case boxX_hr => first | (go_simp; done) | (go_simp; rfl)); intro gx hg_ w5 hb_ hw_; have HS2 := Aside0.mk (HS.out.box hg_ hb_ hw_); clear hb_ hw_ hg_ HS; have HS := HS2; clear HS2; (try clear ki_); (try clear kc_); (try clear kt_); (try clear kb0_ kb1_ kb2_); (try clear kx0_ kx1_ kx2_)))
  go_loopg [11] k (fun kq v11 W' => ∃ (i' : Int) (v : Value) (ks : List CT), Aside0 (ctKids (fun j => ctTake k cs (wrap64 (d + 1)) (wrap64 ((wrap64 (i + 1)) + (rd_T45 cs i).f2)) j) kq (wrap64 ((wrap64 (i + 1)) + (rd_T45 cs i).f2)) i' ks = some (ok, j1)) ∧ Aside0 (kq ≤ k) ∧ Aside0 (CtStX gi gc gt (some ad) c0 cs w W' i' gb gx (rd_T45 cs i) v ks))
  case atStart => exact ⟨_, _, _, H1, ⟨Nat.le_refl _⟩, HS⟩
  case round =>
    clear H1 HS
    (try clear hx0 hx1 hx2 p3 q3 b1 b2 b4 b5)
    obtain ⟨i', v, ks, HL, HKq, HS⟩ := hrel
    cases gk with
    | zero => exact absurd HL.out (by simp [ctKids])
    | succ kq =>
      have h := HL.out
      clear HL
      unfold ctKids at h
      have ki_ : wr.cell? ⟨gi, 0, none⟩ = some (.int .i64 i') := (blk_cell HS.out.hi 0).trans rfl
      have kc_ : wr.cell? ⟨gc, 0, none⟩ = some (.slice (some ad) cs.length c0) := (blk_cell HS.out.env.2.2.2.1 0).trans rfl
      have kt_ : wr.cell? ⟨gt, 0, none⟩ = some (.func (.func 46) #[] #[.pointer (some ⟨gi, 0, none⟩), .pointer (some ⟨gc, 0, none⟩), .pointer (some ⟨gt, 0, none⟩)]) := (blk_cell HS.out.env.2.2.2.2.1 0).trans rfl
      have kb0_ : wr.cell? ⟨gb, 0, none⟩ = some (.int .i64 (rd_T45 cs i).f0) := (blk_cell HS.out.hc 0).trans rfl
      have kb1_ : wr.cell? ⟨gb, 1, none⟩ = some (.string (rd_T45 cs i).f1) := (blk_cell HS.out.hc 1).trans rfl
      have kb2_ : wr.cell? ⟨gb, 2, none⟩ = some (.int .i64 (rd_T45 cs i).f2) := (blk_cell HS.out.hc 2).trans rfl
      have kx0_ : wr.cell? ⟨gx, 0, none⟩ = some (.int .i64 (rd_T45 cs i).f0) := (blk_cell HS.out.hx 0).trans rfl
      have kx1_ : wr.cell? ⟨gx, 1, none⟩ = some (.string (rd_T45 cs i).f1) := (blk_cell HS.out.hx 1).trans rfl
      have kx2_ : wr.cell? ⟨gx, 2, none⟩ = some (v) := (blk_cell HS.out.hx 2).trans rfl
      by_cases c6 : i' < wrap64 ((wrap64 (i + 1)) + (rd_T45 cs i).f2)
      · rw [if_pos c6] at h
        have b6 : decide (i' < wrap64 ((wrap64 (i + 1)) + (rd_T45 cs i).f2)) = true := decide_eq_true c6
        clear c6
        by_cases c7 : ks.length < 1000000
        case neg => rw [if_neg c7] at h; simp at h
        rw [if_pos c7] at h
        have HN := Aside0.mk c7
        clear c7
        obtain ⟨⟨t, j2⟩, e1, h⟩ := Option.bind_eq_some_iff.mp h
        have E1 := Aside0.mk e1
        clear e1
        cases t with
        | none =>
          obtain ⟨rfl, rfl⟩ : none = ok ∧ j2 = j1 := by simpa using h
          clear h
          have h2 := H2.out
          clear H2
          obtain ⟨rfl, rfl⟩ : none = r ∧ j2 = j := by simpa [ctEnd] using h2
          clear h2
          go_wp2_with (first | ((go_at_call 46); (with_reducible refine (ih gi gc gt (some ad) c0 cs _ _ i' none j2 _ HS.out.env HS.out.hi E1.out).mono ?_); rintro e_ w6 ⟨v6, rfl, hres_, hi6_, hk6_⟩; obtain rfl : v6 = .pointer none := hres_; have HS2 := Aside0.mk (HS.out.call hi6_ hk6_); clear hi6_ hk6_ HS; have HS := HS2; clear HS2; (try clear ki_); (try clear kc_); (try clear kt_); (try clear kb0_ kb1_ kb2_); (try clear kx0_ kx1_ kx2_)))
          go_ret
          exact HS.out.fin rfl
        | some x =>
          have H := Aside0.mk (show ctKids (fun j => ctTake k cs (wrap64 (d + 1)) (wrap64 ((wrap64 (i + 1)) + (rd_T45 cs i).f2)) j) kq (wrap64 ((wrap64 (i + 1)) + (rd_T45 cs i).f2)) j2 (ks ++ [x]) = some (ok, j1) from h)
          clear h
          go_wp2_with (first | ((go_at_call 46); (with_reducible refine (ih gi gc gt (some ad) c0 cs _ _ i' (some x) j2 _ HS.out.env HS.out.hi E1.out).mono ?_); rintro e_ w6 ⟨v6, rfl, hres_, hi6_, hk6_⟩; have HF := Aside0.mk (Kd.FK_mono hres_ (fun k hk => Nat.le_trans HS.out.kp.2.1 hk)); have HFl := Aside0.mk hres_; have HOK := Aside0.mk (fun k_ (hk_ : wr.heap.size ≤ k_) => (⟨⟨Nat.le_trans HS.out.kp.2.1 hk_, fun e_ => absurd (blk_lt HS.out.hx) (by omega), fun e_ => absurd (blk_lt HS.out.hc) (by omega)⟩, fun e_ => absurd (Kd.N_lt HS.out.hn k_ e_.symm) (by omega)⟩ : (w.heap.size ≤ k_ ∧ k_ ≠ gx ∧ k_ ≠ gb) ∧ some k_ ≠ v.ownBlock)); have HS2 := Aside0.mk (HS.out.call hi6_ hk6_); obtain ⟨b6_, A6_, c6_, e6_, _⟩ := Kd.ct_FK hres_; obtain rfl : v6 = .pointer (some ⟨b6_, 0, none⟩) := (by injection e6_); clear hi6_ hk6_ HS hres_ e6_; have HS := HS2; clear HS2; (try clear ki_); (try clear kc_); (try clear kt_); (try clear kb0_ kb1_ kb2_); (try clear kx0_ kx1_ kx2_); have ki_ : w6.cell? ⟨gi, 0, none⟩ = some (.int .i64 j2) := (blk_cell HS.out.hi 0).trans rfl; have kc_ : w6.cell? ⟨gc, 0, none⟩ = some (.slice (some ad) cs.length c0) := (blk_cell HS.out.env.2.2.2.1 0).trans rfl; have kt_ : w6.cell? ⟨gt, 0, none⟩ = some (.func (.func 46) #[] #[.pointer (some ⟨gi, 0, none⟩), .pointer (some ⟨gc, 0, none⟩), .pointer (some ⟨gt, 0, none⟩)]) := (blk_cell HS.out.env.2.2.2.2.1 0).trans rfl; have kb0_ : w6.cell? ⟨gb, 0, none⟩ = some (.int .i64 (rd_T45 cs i).f0) := (blk_cell HS.out.hc 0).trans rfl; have kb1_ : w6.cell? ⟨gb, 1, none⟩ = some (.string (rd_T45 cs i).f1) := (blk_cell HS.out.hc 1).trans rfl; have kb2_ : w6.cell? ⟨gb, 2, none⟩ = some (.int .i64 (rd_T45 cs i).f2) := (blk_cell HS.out.hc 2).trans rfl; have kx0_ : w6.cell? ⟨gx, 0, none⟩ = some (.int .i64 (rd_T45 cs i).f0) := (blk_cell HS.out.hx 0).trans rfl; have kx1_ : w6.cell? ⟨gx, 1, none⟩ = some (.string (rd_T45 cs i).f1) := (blk_cell HS.out.hx 1).trans rfl; have kx2_ : w6.cell? ⟨gx, 2, none⟩ = some (v) := (blk_cell HS.out.hx 2).trans rfl) | ((with_reducible refine gate_builtin (b := .append) (xs := #[.tmp 64, .tmp 66]) (ts := #[69, 69]) rfl ?_); at_builtin; refine Kd.N_append (Kd.ct 71 47) (w0 := w6) w.heap.size rfl (.tmp 64) (.tmp 66) 69 47 (.pointer none) 8 rfl Try.underlying69 ?ap_i rfl (by decide) (by decide) v ks x [.pointer (some ⟨b6_, 0, none⟩)] (fun k => w.heap.size ≤ k ∧ k ≠ gx ∧ k ≠ gb) _ ?ap_s ?ap_x HFl.out ?ap_k ?ap_f HS.out.hn (Below.refl _ _) ?ap_b ?ap_l ?_; (case ap_i => first | rfl | kernel_rfl); (case ap_s => rfl); (case ap_x => rfl); (case ap_k => exact HOK.out); (case ap_f => intro k_ hk_; have h1_ := blk_lt HS.out.hx; have h2_ := blk_lt HS.out.hc; have h3_ := HS.out.kp.2.1; omega); (case ap_b => exact HS.out.kp.2.1); (case ap_l => have h1_ := HN.out; omega); intro v7 w7 hn7_ hb7_ hg7_ hat7_; obtain ⟨A7_, c7_, ev7_⟩ := Kd.N_slice hn7_; subst ev7_; have hx7_ := blk_grown HS.out.hx hg7_ (fun e_ => (HS.out.hn.1 gx e_.symm).2.1 rfl); have HS2 := Aside0.mk (HS.out.app hn7_ hg7_); clear hn7_ hb7_ hg7_ hat7_ HS; have HS := HS2; clear HS2; (try clear ki_); (try clear kc_); (try clear kt_); (try clear kb0_ kb1_ kb2_); (try clear kx0_ kx1_ kx2_); have kx2_ : w7.cell? ⟨gx, 2, none⟩ = some v := (blk_cell hx7_ 2).trans rfl; have kfz_ : w7.frozen? ⟨gx, 2, none⟩ = false := blk_frozen hx7_ 2; clear hx7_))
          go_roundg kq
          case measure => have := HKq.out; omega
          case rel => exact ⟨_, _, _, H, ⟨by have := HKq.out; omega⟩, ⟨by have hs_ := HS.out; rw [List.length_append, List.length_singleton] at hs_; exact hs_⟩⟩
      · rw [if_neg c6] at h
        have b6 : decide (i' < wrap64 ((wrap64 (i + 1)) + (rd_T45 cs i).f2)) = false := decide_eq_false c6
        clear c6
        obtain ⟨rfl, rfl⟩ : some ks = ok ∧ i' = j1 := by simpa using h
        clear h
        have h2 := H2.out
        clear H2
        simp only [ctEnd] at h2
        obtain ⟨bb, h3, h2b⟩ := Option.bind_eq_some_iff.mp h2
        clear h2
        obtain ⟨hr, rfl⟩ : (if bb = true then some (CT.node (rd_T45 cs i).f0 (rd_T45 cs i).f1 ks) else none) = r ∧ i' = j := by simpa using h2b
        clear h2b
        have HR := Aside0.mk hr
        clear hr
        obtain ⟨Av, cv, ev⟩ := Kd.N_slice HS.out.hn
        subst ev
        unfold ctOk at h3
        obtain ⟨c, hc⟩ : ∃ c, c = rd_T45 cs i := ⟨_, rfl⟩
        rw [← hc] at h3 HR HS kb0_ kb1_ kb2_ kx0_ kx1_
        clear hc
        by_cases k1 : c.f0 = 1
        · rw [if_pos k1] at h3
          have k1e : (c.f0 == 1) = true := beq_iff_eq.mpr k1
          have k1d : decide (c.f0 = 1) = true := decide_eq_true k1
          have k1n : (c.f0 != 1) = false := bne_eq_false_iff_eq.mpr k1
          by_cases h0 : (ks.length : Int) = 0
          · rw [if_pos h0] at h3
            have h0e : ((ks.length : Int) == 0) = true := beq_iff_eq.mpr h0
            have h0d : decide ((ks.length : Int) = 0) = true := decide_eq_true h0
            have h0n : ((ks.length : Int) != 0) = false := bne_eq_false_iff_eq.mpr h0
            obtain ⟨t, e2, h3b⟩ := Option.bind_eq_some_iff.mp h3; clear h3; have h3 := h3b; clear h3b
            have E2 := Aside0.mk e2
            clear e2
            cases t with
            | false =>
              obtain rfl : false = bb := by simpa using h3
              clear h3
              go_wp2_with (first | ((go_at_call 47); (with_reducible refine (impl_NameOk.calls k _ false _ E2.out).mono ?_); rintro e_ w8 ⟨rfl, hd_⟩; have HS2 := Aside0.mk (HS.out.drawn hd_); clear hd_ HS; have HS := HS2; clear HS2; (try clear ki_); (try clear kc_); (try clear kt_); (try clear kb0_ kb1_ kb2_); (try clear kx0_ kx1_ kx2_); have ki_ : w8.cell? ⟨gi, 0, none⟩ = some (.int .i64 i') := (blk_cell HS.out.hi 0).trans rfl; have kc_ : w8.cell? ⟨gc, 0, none⟩ = some (.slice (some ad) cs.length c0) := (blk_cell HS.out.env.2.2.2.1 0).trans rfl; have kt_ : w8.cell? ⟨gt, 0, none⟩ = some (.func (.func 46) #[] #[.pointer (some ⟨gi, 0, none⟩), .pointer (some ⟨gc, 0, none⟩), .pointer (some ⟨gt, 0, none⟩)]) := (blk_cell HS.out.env.2.2.2.2.1 0).trans rfl; have kb0_ : w8.cell? ⟨gb, 0, none⟩ = some (.int .i64 c.f0) := (blk_cell HS.out.hc 0).trans rfl; have kb1_ : w8.cell? ⟨gb, 1, none⟩ = some (.string c.f1) := (blk_cell HS.out.hc 1).trans rfl; have kb2_ : w8.cell? ⟨gb, 2, none⟩ = some (.int .i64 c.f2) := (blk_cell HS.out.hc 2).trans rfl; have kx0_ : w8.cell? ⟨gx, 0, none⟩ = some (.int .i64 c.f0) := (blk_cell HS.out.hx 0).trans rfl; have kx1_ : w8.cell? ⟨gx, 1, none⟩ = some (.string c.f1) := (blk_cell HS.out.hx 1).trans rfl; have kx2_ : w8.cell? ⟨gx, 2, none⟩ = some (.slice Av ks.length cv) := (blk_cell HS.out.hx 2).trans rfl))
              go_ret
              obtain rfl : none = r := by simpa using HR.out
              exact HS.out.fin rfl
            | true =>
              cases hTe : (c.f1.toList == ([116, 114, 117, 101] : List UInt8))
              case true =>
                have hTn : (c.f1.toList != ([116, 114, 117, 101] : List UInt8)) = false := by rw [bne, hTe]; rfl
                obtain rfl : false = bb := by simpa [hTn] using h3
                clear h3
                go_wp2_with (first | ((go_at_call 47); (with_reducible refine (impl_NameOk.calls k _ true _ E2.out).mono ?_); rintro e_ w8 ⟨rfl, hd_⟩; have HS2 := Aside0.mk (HS.out.drawn hd_); clear hd_ HS; have HS := HS2; clear HS2; (try clear ki_); (try clear kc_); (try clear kt_); (try clear kb0_ kb1_ kb2_); (try clear kx0_ kx1_ kx2_); have ki_ : w8.cell? ⟨gi, 0, none⟩ = some (.int .i64 i') := (blk_cell HS.out.hi 0).trans rfl; have kc_ : w8.cell? ⟨gc, 0, none⟩ = some (.slice (some ad) cs.length c0) := (blk_cell HS.out.env.2.2.2.1 0).trans rfl; have kt_ : w8.cell? ⟨gt, 0, none⟩ = some (.func (.func 46) #[] #[.pointer (some ⟨gi, 0, none⟩), .pointer (some ⟨gc, 0, none⟩), .pointer (some ⟨gt, 0, none⟩)]) := (blk_cell HS.out.env.2.2.2.2.1 0).trans rfl; have kb0_ : w8.cell? ⟨gb, 0, none⟩ = some (.int .i64 c.f0) := (blk_cell HS.out.hc 0).trans rfl; have kb1_ : w8.cell? ⟨gb, 1, none⟩ = some (.string c.f1) := (blk_cell HS.out.hc 1).trans rfl; have kb2_ : w8.cell? ⟨gb, 2, none⟩ = some (.int .i64 c.f2) := (blk_cell HS.out.hc 2).trans rfl; have kx0_ : w8.cell? ⟨gx, 0, none⟩ = some (.int .i64 c.f0) := (blk_cell HS.out.hx 0).trans rfl; have kx1_ : w8.cell? ⟨gx, 1, none⟩ = some (.string c.f1) := (blk_cell HS.out.hx 1).trans rfl; have kx2_ : w8.cell? ⟨gx, 2, none⟩ = some (.slice Av ks.length cv) := (blk_cell HS.out.hx 2).trans rfl))
                go_ret
                obtain rfl : none = r := by simpa using HR.out
                exact HS.out.fin rfl
              have hTn : (c.f1.toList != ([116, 114, 117, 101] : List UInt8)) = true := by rw [bne, hTe]; rfl
              cases hFe : (c.f1.toList == ([102, 97, 108, 115, 101] : List UInt8))
              case true =>
                have hFn : (c.f1.toList != ([102, 97, 108, 115, 101] : List UInt8)) = false := by rw [bne, hFe]; rfl
                obtain rfl : false = bb := by simpa [hTn, hFn] using h3
                clear h3
                go_wp2_with (first | ((go_at_call 47); (with_reducible refine (impl_NameOk.calls k _ true _ E2.out).mono ?_); rintro e_ w8 ⟨rfl, hd_⟩; have HS2 := Aside0.mk (HS.out.drawn hd_); clear hd_ HS; have HS := HS2; clear HS2; (try clear ki_); (try clear kc_); (try clear kt_); (try clear kb0_ kb1_ kb2_); (try clear kx0_ kx1_ kx2_); have ki_ : w8.cell? ⟨gi, 0, none⟩ = some (.int .i64 i') := (blk_cell HS.out.hi 0).trans rfl; have kc_ : w8.cell? ⟨gc, 0, none⟩ = some (.slice (some ad) cs.length c0) := (blk_cell HS.out.env.2.2.2.1 0).trans rfl; have kt_ : w8.cell? ⟨gt, 0, none⟩ = some (.func (.func 46) #[] #[.pointer (some ⟨gi, 0, none⟩), .pointer (some ⟨gc, 0, none⟩), .pointer (some ⟨gt, 0, none⟩)]) := (blk_cell HS.out.env.2.2.2.2.1 0).trans rfl; have kb0_ : w8.cell? ⟨gb, 0, none⟩ = some (.int .i64 c.f0) := (blk_cell HS.out.hc 0).trans rfl; have kb1_ : w8.cell? ⟨gb, 1, none⟩ = some (.string c.f1) := (blk_cell HS.out.hc 1).trans rfl; have kb2_ : w8.cell? ⟨gb, 2, none⟩ = some (.int .i64 c.f2) := (blk_cell HS.out.hc 2).trans rfl; have kx0_ : w8.cell? ⟨gx, 0, none⟩ = some (.int .i64 c.f0) := (blk_cell HS.out.hx 0).trans rfl; have kx1_ : w8.cell? ⟨gx, 1, none⟩ = some (.string c.f1) := (blk_cell HS.out.hx 1).trans rfl; have kx2_ : w8.cell? ⟨gx, 2, none⟩ = some (.slice Av ks.length cv) := (blk_cell HS.out.hx 2).trans rfl))
                go_ret
                obtain rfl : none = r := by simpa using HR.out
                exact HS.out.fin rfl
              have hFn : (c.f1.toList != ([102, 97, 108, 115, 101] : List UInt8)) = true := by rw [bne, hFe]; rfl
              obtain rfl : true = bb := by simpa [hTn, hFn] using h3
              clear h3
              go_wp2_with (first | ((go_at_call 47); (with_reducible refine (impl_NameOk.calls k _ true _ E2.out).mono ?_); rintro e_ w8 ⟨rfl, hd_⟩; have HS2 := Aside0.mk (HS.out.drawn hd_); clear hd_ HS; have HS := HS2; clear HS2; (try clear ki_); (try clear kc_); (try clear kt_); (try clear kb0_ kb1_ kb2_); (try clear kx0_ kx1_ kx2_); have ki_ : w8.cell? ⟨gi, 0, none⟩ = some (.int .i64 i') := (blk_cell HS.out.hi 0).trans rfl; have kc_ : w8.cell? ⟨gc, 0, none⟩ = some (.slice (some ad) cs.length c0) := (blk_cell HS.out.env.2.2.2.1 0).trans rfl; have kt_ : w8.cell? ⟨gt, 0, none⟩ = some (.func (.func 46) #[] #[.pointer (some ⟨gi, 0, none⟩), .pointer (some ⟨gc, 0, none⟩), .pointer (some ⟨gt, 0, none⟩)]) := (blk_cell HS.out.env.2.2.2.2.1 0).trans rfl; have kb0_ : w8.cell? ⟨gb, 0, none⟩ = some (.int .i64 c.f0) := (blk_cell HS.out.hc 0).trans rfl; have kb1_ : w8.cell? ⟨gb, 1, none⟩ = some (.string c.f1) := (blk_cell HS.out.hc 1).trans rfl; have kb2_ : w8.cell? ⟨gb, 2, none⟩ = some (.int .i64 c.f2) := (blk_cell HS.out.hc 2).trans rfl; have kx0_ : w8.cell? ⟨gx, 0, none⟩ = some (.int .i64 c.f0) := (blk_cell HS.out.hx 0).trans rfl; have kx1_ : w8.cell? ⟨gx, 1, none⟩ = some (.string c.f1) := (blk_cell HS.out.hx 1).trans rfl; have kx2_ : w8.cell? ⟨gx, 2, none⟩ = some (.slice Av ks.length cv) := (blk_cell HS.out.hx 2).trans rfl))
              go_ret
              obtain rfl : some (CT.node c.f0 c.f1 ks) = r := by simpa using HR.out
              exact HS.out.node rfl
          · rw [if_neg h0] at h3
            have h0e : ((ks.length : Int) == 0) = false := beq_eq_false_iff_ne.mpr h0
            have h0d : decide ((ks.length : Int) = 0) = false := decide_eq_false h0
            have h0n : ((ks.length : Int) != 0) = true := bne_iff_ne.mpr h0
            obtain rfl : false = bb := by simpa using h3
            clear h3
            go_wp2
            go_ret
            obtain rfl : none = r := by simpa using HR.out
            exact HS.out.fin rfl
        · rw [if_neg k1] at h3
          have k1e : (c.f0 == 1) = false := beq_eq_false_iff_ne.mpr k1
          have k1d : decide (c.f0 = 1) = false := decide_eq_false k1
          have k1n : (c.f0 != 1) = true := bne_iff_ne.mpr k1
          by_cases k2 : c.f0 = 2
          · rw [if_pos k2] at h3
            have k2e : (c.f0 == 2) = true := beq_iff_eq.mpr k2
            have k2d : decide (c.f0 = 2) = true := decide_eq_true k2
            have k2n : (c.f0 != 2) = false := bne_eq_false_iff_eq.mpr k2
            cases hq : ((ks.length : Int) == 0)
            · obtain rfl : false = bb := by simpa [hq] using h3
              clear h3
              go_wp2
              go_ret
              obtain rfl : none = r := by simpa using HR.out
              exact HS.out.fin rfl
            · cases he : (c.f1.toList == ([] : List UInt8))
              · obtain rfl : false = bb := by simpa [hq, he] using h3
                clear h3
                have hen : (c.f1.toList != ([] : List UInt8)) = true := by simp [bne, he]
                go_wp2
                go_ret
                obtain rfl : none = r := by simpa using HR.out
                exact HS.out.fin rfl
              · obtain rfl : true = bb := by simpa [hq, he] using h3
                clear h3
                have hen : (c.f1.toList != ([] : List UInt8)) = false := by simp [bne, he]
                go_wp2
                go_ret
                obtain rfl : some (CT.node c.f0 c.f1 ks) = r := by simpa using HR.out
                exact HS.out.node rfl
          · rw [if_neg k2] at h3
            have k2e : (c.f0 == 2) = false := beq_eq_false_iff_ne.mpr k2
            have k2d : decide (c.f0 = 2) = false := decide_eq_false k2
            have k2n : (c.f0 != 2) = true := bne_iff_ne.mpr k2
            by_cases k3 : c.f0 = 3
            · rw [if_pos k3] at h3
              have k3e : (c.f0 == 3) = true := beq_iff_eq.mpr k3
              have k3d : decide (c.f0 = 3) = true := decide_eq_true k3
              have k3n : (c.f0 != 3) = false := bne_eq_false_iff_eq.mpr k3
              cases hq : ((ks.length : Int) == 0)
              · obtain rfl : false = bb := by simpa [hq] using h3
                clear h3
                go_wp2
                go_ret
                obtain rfl : none = r := by simpa using HR.out
                exact HS.out.fin rfl
              · cases he : (c.f1.toList == ([] : List UInt8))
                · obtain rfl : false = bb := by simpa [hq, he] using h3
                  clear h3
                  have hen : (c.f1.toList != ([] : List UInt8)) = true := by simp [bne, he]
                  go_wp2
                  go_ret
                  obtain rfl : none = r := by simpa using HR.out
                  exact HS.out.fin rfl
                · obtain rfl : true = bb := by simpa [hq, he] using h3
                  clear h3
                  have hen : (c.f1.toList != ([] : List UInt8)) = false := by simp [bne, he]
                  go_wp2
                  go_ret
                  obtain rfl : some (CT.node c.f0 c.f1 ks) = r := by simpa using HR.out
                  exact HS.out.node rfl
            · rw [if_neg k3] at h3
              have k3e : (c.f0 == 3) = false := beq_eq_false_iff_ne.mpr k3
              have k3d : decide (c.f0 = 3) = false := decide_eq_false k3
              have k3n : (c.f0 != 3) = true := bne_iff_ne.mpr k3
              by_cases k4 : c.f0 = 4
              · rw [if_pos k4] at h3
                have k4e : (c.f0 == 4) = true := beq_iff_eq.mpr k4
                have k4d : decide (c.f0 = 4) = true := decide_eq_true k4
                have k4n : (c.f0 != 4) = false := bne_eq_false_iff_eq.mpr k4
                cases hq : ((ks.length : Int) == 1)
                · obtain rfl : false = bb := by simpa [hq] using h3
                  clear h3
                  go_wp2
                  go_ret
                  obtain rfl : none = r := by simpa using HR.out
                  exact HS.out.fin rfl
                · cases he : (c.f1.toList == ([] : List UInt8))
                  · obtain rfl : false = bb := by simpa [hq, he] using h3
                    clear h3
                    have hen : (c.f1.toList != ([] : List UInt8)) = true := by simp [bne, he]
                    go_wp2
                    go_ret
                    obtain rfl : none = r := by simpa using HR.out
                    exact HS.out.fin rfl
                  · obtain rfl : true = bb := by simpa [hq, he] using h3
                    clear h3
                    have hen : (c.f1.toList != ([] : List UInt8)) = false := by simp [bne, he]
                    go_wp2
                    go_ret
                    obtain rfl : some (CT.node c.f0 c.f1 ks) = r := by simpa using HR.out
                    exact HS.out.node rfl
              · rw [if_neg k4] at h3
                have k4e : (c.f0 == 4) = false := beq_eq_false_iff_ne.mpr k4
                have k4d : decide (c.f0 = 4) = false := decide_eq_false k4
                have k4n : (c.f0 != 4) = true := bne_iff_ne.mpr k4
                by_cases k5 : c.f0 = 5
                · rw [if_pos k5] at h3
                  have k5e : (c.f0 == 5) = true := beq_iff_eq.mpr k5
                  have k5d : decide (c.f0 = 5) = true := decide_eq_true k5
                  have k5n : (c.f0 != 5) = false := bne_eq_false_iff_eq.mpr k5
                  cases hq : decide (2 ≤ (ks.length : Int))
                  · obtain rfl : false = bb := by simpa [hq] using h3
                    clear h3
                    go_wp2
                    go_ret
                    obtain rfl : none = r := by simpa using HR.out
                    exact HS.out.fin rfl
                  · cases he : (c.f1.toList == ([] : List UInt8))
                    · obtain rfl : false = bb := by simpa [hq, he] using h3
                      clear h3
                      have hen : (c.f1.toList != ([] : List UInt8)) = true := by simp [bne, he]
                      go_wp2
                      go_ret
                      obtain rfl : none = r := by simpa using HR.out
                      exact HS.out.fin rfl
                    · obtain rfl : true = bb := by simpa [hq, he] using h3
                      clear h3
                      have hen : (c.f1.toList != ([] : List UInt8)) = false := by simp [bne, he]
                      go_wp2
                      go_ret
                      obtain rfl : some (CT.node c.f0 c.f1 ks) = r := by simpa using HR.out
                      exact HS.out.node rfl
                · rw [if_neg k5] at h3
                  have k5e : (c.f0 == 5) = false := beq_eq_false_iff_ne.mpr k5
                  have k5d : decide (c.f0 = 5) = false := decide_eq_false k5
                  have k5n : (c.f0 != 5) = true := bne_iff_ne.mpr k5
                  by_cases k6 : c.f0 = 6
                  · rw [if_pos k6] at h3
                    have k6e : (c.f0 == 6) = true := beq_iff_eq.mpr k6
                    have k6d : decide (c.f0 = 6) = true := decide_eq_true k6
                    have k6n : (c.f0 != 6) = false := bne_eq_false_iff_eq.mpr k6
                    cases hq : decide (2 ≤ (ks.length : Int))
                    · obtain rfl : false = bb := by simpa [hq] using h3
                      clear h3
                      go_wp2
                      go_ret
                      obtain rfl : none = r := by simpa using HR.out
                      exact HS.out.fin rfl
                    · cases he : (c.f1.toList == ([] : List UInt8))
                      · obtain rfl : false = bb := by simpa [hq, he] using h3
                        clear h3
                        have hen : (c.f1.toList != ([] : List UInt8)) = true := by simp [bne, he]
                        go_wp2
                        go_ret
                        obtain rfl : none = r := by simpa using HR.out
                        exact HS.out.fin rfl
                      · obtain rfl : true = bb := by simpa [hq, he] using h3
                        clear h3
                        have hen : (c.f1.toList != ([] : List UInt8)) = false := by simp [bne, he]
                        go_wp2
                        go_ret
                        obtain rfl : some (CT.node c.f0 c.f1 ks) = r := by simpa using HR.out
                        exact HS.out.node rfl
                  · rw [if_neg k6] at h3
                    have k6e : (c.f0 == 6) = false := beq_eq_false_iff_ne.mpr k6
                    have k6d : decide (c.f0 = 6) = false := decide_eq_false k6
                    have k6n : (c.f0 != 6) = true := bne_iff_ne.mpr k6
                    obtain rfl : false = bb := by simpa using h3
                    clear h3
                    go_wp2
                    go_ret
                    obtain rfl : none = r := by simpa using HR.out
                    exact HS.out.fin rfl
theorem ct_env0 {w w4 : World} {A0 : Option Addr} {c0 : Nat} {cs : List S45} (hr : Kd.C k45 w A0 cs.length cs) (hc : cs.length ≤ c0) (hb : w4.heap[w.heap.size + 1 + 1]? = some (.cells #[(.func (.func 46) #[] #[.pointer (some ⟨w.heap.size + 1, 0, none⟩), .pointer (some ⟨w.heap.size, 0, none⟩), .pointer (some ⟨w.heap.size + 1 + 1, 0, none⟩)])] 68 (0, 0)))
    (hp : Put (w.heap.size + 1 + 1) (((w.alloc (.cells #[.slice A0 cs.length c0] 25)).alloc (.cells #[.int .i64 0] 3)).alloc (.cells #[.nilFunc] 68)) w4) : CtEnv w4 (w.heap.size + 1) w.heap.size (w.heap.size + 1 + 1) A0 c0 cs ∧ w4.heap[w.heap.size + 1]? = some (.cells #[.int .i64 0] 3 (0, 0)) ∧ Below w.heap.size w w4 := by
  have s1 : ∀ (u : World) (o : Obj), (u.alloc o).heap.size = u.heap.size + 1 := fun u o => Array.size_push _
  have h1 : (((w.alloc (.cells #[.slice A0 cs.length c0] 25)).alloc (.cells #[.int .i64 0] 3)).alloc (.cells #[.nilFunc] 68)).heap[w.heap.size]? = some (.cells #[.slice A0 cs.length c0] 25 (0, 0)) := blk_alloc (blk_alloc (blk_new w _) _) _
  have h2 : (((w.alloc (.cells #[.slice A0 cs.length c0] 25)).alloc (.cells #[.int .i64 0] 3)).alloc (.cells #[.nilFunc] 68)).heap[w.heap.size + 1]? = some (.cells #[.int .i64 0] 3 (0, 0)) := blk_alloc (by have := blk_new (w.alloc (.cells #[.slice A0 cs.length c0] 25)) (.cells #[.int .i64 0] 3); rw [s1] at this; exact this) _
  have B : Below w.heap.size w (((w.alloc (.cells #[.slice A0 cs.length c0] 25)).alloc (.cells #[.int .i64 0] 3)).alloc (.cells #[.nilFunc] 68)) := below_alloc (below_alloc (below_alloc (Below.refl _ _) _) _) _
  have B4 : Below w.heap.size w w4 := ⟨hp.os.trans B.os, hp.tape.trans B.tape, hp.output.trans B.output, by rw [hp.size]; exact B.size, fun k hk => (hp.block k (by omega)).trans (B.block k hk)⟩
  refine ⟨⟨by omega, by omega, ?_, ?_, hb, hc, ?_⟩, ?_, B4⟩
  · rw [hp.size, s1, s1, s1]; omega
  · rw [hp.block _ (by omega)]; exact h1
  · intro W' hk
    exact Kd.Heap.C (Kd.heap_iso _ (Kd.heap_pair (Kd.heap_int _) (Kd.heap_pair Kd.heap_string (Kd.heap_int _)))) (fun k hlt => (hk.2 k (Nat.lt_of_lt_of_le hlt B4.size) (by omega) (by simp)).trans (B4.block k hlt)) hr
  · rw [hp.block _ (by omega)]; exact h2
theorem ctRes_old {w w1 w2 : World} {v : Value} {t : Option CT} (h : CtRes w1 w2 v t) (hs : w.heap.size ≤ w1.heap.size) : CtRes w w2 v t := by
  cases t with
  | none => exact h
  | some t => exact Kd.FK_mono h (fun k hk => Nat.le_trans hs hk)
set_option maxHeartbeats 8000000 in
set_option maxRecDepth 100000 in
theorem ct_tree (k : Nat) (A0 : Option Addr) (c0 : Nat) (cs : List S45) (r : Option CT) (w : World) (hr : Kd.C k45 w A0 cs.length cs) (hc : cs.length ≤ c0) (h : impl_condTree.f k cs = some r) :
    Calls Try.prog 29 #[.slice A0 cs.length c0] w fun e w' => ∃ v, e = .returned v ∧ CtRes w w' v r ∧ Below w.heap.size w w' := by
  have hmf : ∀ (fn : Fn) (first cap : Array Value) (w : World), (Instr.makeFunc fn first cap).run Try.prog w = .ok (.func fn first cap) w := fun _ _ _ _ => rfl
  have HR := Aside0.mk hr
  have HC := Aside0.mk hc
  clear hr hc
  unfold impl_condTree.f at h
  by_cases c1 : (cs.length : Int) > 300
  · rw [if_pos c1] at h
    obtain rfl : none = r := by simpa using h
    clear h
    have b1 : decide (300 < (cs.length : Int)) = true := decide_eq_true c1
    clear c1
    go_enter Try.func29, Try.ntmps29
    go_wp2
    go_ret
    exact ⟨_, rfl, rfl, below_alloc (Below.refl _ _) _⟩
  rw [if_neg c1] at h
  have b1 : decide (300 < (cs.length : Int)) = false := decide_eq_false c1
  clear c1
  obtain ⟨⟨t, j⟩, e1, h2⟩ := Option.bind_eq_some_iff.mp h
  clear h
  have E1 := Aside0.mk e1
  have H2 := Aside0.mk h2
  clear e1 h2
  try dsimp only at H2
  by_cases c2 : j = (cs.length : Int)
  · have r2 : t = r := by have h := H2.out; rw [if_pos c2] at h; exact Option.some.inj h
    subst r2
    have b2 : (j == (cs.length : Int)) = true := beq_iff_eq.mpr c2
    have b3 : (j != (cs.length : Int)) = false := bne_eq_false_iff_eq.mpr c2
    clear c2 H2
    go_enter Try.func29, Try.ntmps29
    go_wp2_with (first | ((with_reducible refine gate_dst (N := 9) rfl ?_); (refine Kd.event_run ?mf_g (v := (.func (.func 46) #[] #[.pointer (some ⟨w.heap.size + 1, 0, none⟩), .pointer (some ⟨w.heap.size, 0, none⟩), .pointer (some ⟨w.heap.size + 1 + 1, 0, none⟩)])) (w1 := (((w.alloc (.cells #[.slice A0 cs.length c0] 25)).alloc (.cells #[.int .i64 0] 3)).alloc (.cells #[.nilFunc] 68))) ?mf_r ?_; (case mf_g => rfl); (case mf_r => first | rfl | (go_simp; rfl) | (go_simp; done)); refine store_box (t := 68) (p := 4) (v := .tmp 9) (g := w.heap.size + 1 + 1) (off := 0) (e := 68) (cs := #[.nilFunc]) (cs' := #[(.func (.func 46) #[] #[.pointer (some ⟨w.heap.size + 1, 0, none⟩), .pointer (some ⟨w.heap.size, 0, none⟩), .pointer (some ⟨w.heap.size + 1 + 1, 0, none⟩)])]) (u := (.func (.func 46) #[] #[.pointer (some ⟨w.heap.size + 1, 0, none⟩), .pointer (some ⟨w.heap.size, 0, none⟩), .pointer (some ⟨w.heap.size + 1 + 1, 0, none⟩)])) ?st_g ?st_o ?st_N ?st_a ?st_x ?st_t ?st_1 ?st_b ?st_f ?st_c ?_; (case st_g => rfl); (case st_o => rfl); (case st_N => rfl); (case st_a => rfl); (case st_x => rfl); (case st_t => kernel_rfl); (case st_1 => intro q_ hq_; simp [Value.cells] at hq_; subst hq_; rfl); (case st_b => have h_ := blk_new ((w.alloc (.cells #[.slice A0 cs.length c0] 25)).alloc (.cells #[.int .i64 0] 3)) (.cells #[.nilFunc] 68); simp only [World.alloc, Array.size_push] at h_ ⊢; exact h_); (case st_f => exact Nat.le_refl _); (case st_c => rfl); intro w4 hb_ hp_; have HEV := Aside0.mk (ct_env0 HR.out HC.out hb_ hp_); clear hb_ hp_; have kc_ : w4.cell? ⟨w.heap.size, 0, none⟩ = some (.slice A0 cs.length c0) := (blk_cell HEV.out.1.2.2.2.1 0).trans rfl; have kt_ : w4.cell? ⟨w.heap.size + 1 + 1, 0, none⟩ = some (.func (.func 46) #[] #[.pointer (some ⟨w.heap.size + 1, 0, none⟩), .pointer (some ⟨w.heap.size, 0, none⟩), .pointer (some ⟨w.heap.size + 1 + 1, 0, none⟩)]) := (blk_cell HEV.out.1.2.2.2.2.1 0).trans rfl)) | ((go_at_call 46); ((with_reducible refine (ct_take k _ _ _ A0 c0 cs _ _ 0 t j w4 HEV.out.1 HEV.out.2.1 E1.out).mono ?_); rintro e_ w5 ⟨v5, rfl, hres_, hi_, hk_⟩; have HE5 := Aside0.mk (HEV.out.1.step hk_.2); have HB5 := Aside0.mk (HEV.out.2.2.trans (hk_.1.mono (Nat.le_succ _))); have HRS := Aside0.mk (ctRes_old hres_ HEV.out.2.2.size); have ki_ : w5.cell? ⟨w.heap.size + 1, 0, none⟩ = some (.int .i64 j) := (blk_cell hi_ 0).trans rfl; clear kc_ kt_; have kc_ : w5.cell? ⟨w.heap.size, 0, none⟩ = some (.slice A0 cs.length c0) := (blk_cell HE5.out.2.2.2.1 0).trans rfl; clear hres_ hi_ hk_)))
    go_ret
    exact ⟨_, rfl, HRS.out, HB5.out⟩
  · have r2 : none = r := by have h := H2.out; rw [if_neg c2] at h; exact Option.some.inj h
    subst r2
    have b2 : (j == (cs.length : Int)) = false := beq_eq_false_iff_ne.mpr c2
    have b3 : (j != (cs.length : Int)) = true := bne_iff_ne.mpr c2
    clear c2 H2
    go_enter Try.func29, Try.ntmps29
    go_wp2_with (first | ((with_reducible refine gate_dst (N := 9) rfl ?_); (refine Kd.event_run ?mf_g (v := (.func (.func 46) #[] #[.pointer (some ⟨w.heap.size + 1, 0, none⟩), .pointer (some ⟨w.heap.size, 0, none⟩), .pointer (some ⟨w.heap.size + 1 + 1, 0, none⟩)])) (w1 := (((w.alloc (.cells #[.slice A0 cs.length c0] 25)).alloc (.cells #[.int .i64 0] 3)).alloc (.cells #[.nilFunc] 68))) ?mf_r ?_; (case mf_g => rfl); (case mf_r => first | rfl | (go_simp; rfl) | (go_simp; done)); refine store_box (t := 68) (p := 4) (v := .tmp 9) (g := w.heap.size + 1 + 1) (off := 0) (e := 68) (cs := #[.nilFunc]) (cs' := #[(.func (.func 46) #[] #[.pointer (some ⟨w.heap.size + 1, 0, none⟩), .pointer (some ⟨w.heap.size, 0, none⟩), .pointer (some ⟨w.heap.size + 1 + 1, 0, none⟩)])]) (u := (.func (.func 46) #[] #[.pointer (some ⟨w.heap.size + 1, 0, none⟩), .pointer (some ⟨w.heap.size, 0, none⟩), .pointer (some ⟨w.heap.size + 1 + 1, 0, none⟩)])) ?st_g ?st_o ?st_N ?st_a ?st_x ?st_t ?st_1 ?st_b ?st_f ?st_c ?_; (case st_g => rfl); (case st_o => rfl); (case st_N => rfl); (case st_a => rfl); (case st_x => rfl); (case st_t => kernel_rfl); (case st_1 => intro q_ hq_; simp [Value.cells] at hq_; subst hq_; rfl); (case st_b => have h_ := blk_new ((w.alloc (.cells #[.slice A0 cs.length c0] 25)).alloc (.cells #[.int .i64 0] 3)) (.cells #[.nilFunc] 68); simp only [World.alloc, Array.size_push] at h_ ⊢; exact h_); (case st_f => exact Nat.le_refl _); (case st_c => rfl); intro w4 hb_ hp_; have HEV := Aside0.mk (ct_env0 HR.out HC.out hb_ hp_); clear hb_ hp_; have kc_ : w4.cell? ⟨w.heap.size, 0, none⟩ = some (.slice A0 cs.length c0) := (blk_cell HEV.out.1.2.2.2.1 0).trans rfl; have kt_ : w4.cell? ⟨w.heap.size + 1 + 1, 0, none⟩ = some (.func (.func 46) #[] #[.pointer (some ⟨w.heap.size + 1, 0, none⟩), .pointer (some ⟨w.heap.size, 0, none⟩), .pointer (some ⟨w.heap.size + 1 + 1, 0, none⟩)]) := (blk_cell HEV.out.1.2.2.2.2.1 0).trans rfl)) | ((go_at_call 46); ((with_reducible refine (ct_take k _ _ _ A0 c0 cs _ _ 0 t j w4 HEV.out.1 HEV.out.2.1 E1.out).mono ?_); rintro e_ w5 ⟨v5, rfl, hres_, hi_, hk_⟩; have HE5 := Aside0.mk (HEV.out.1.step hk_.2); have HB5 := Aside0.mk (HEV.out.2.2.trans (hk_.1.mono (Nat.le_succ _))); have HRS := Aside0.mk (ctRes_old hres_ HEV.out.2.2.size); have ki_ : w5.cell? ⟨w.heap.size + 1, 0, none⟩ = some (.int .i64 j) := (blk_cell hi_ 0).trans rfl; clear kc_ kt_; have kc_ : w5.cell? ⟨w.heap.size, 0, none⟩ = some (.slice A0 cs.length c0) := (blk_cell HE5.out.2.2.2.1 0).trans rfl; clear hres_ hi_ hk_)))
    go_ret
    exact ⟨_, rfl, rfl, HB5.out⟩
def anyL (f : CT → Option Bool) (stop : Bool) : Nat → List CT → Int → Option Bool
  | 0, _, _ => none
  | k + 1, l, i => if i < (l.length : Int) then (if 0 ≤ i then (f (l.getD i.toNat (.node 0 ⟨#[]⟩ []))).bind fun b => (if b = stop then some stop else anyL f stop k l (wrap64 (i + 1))) else none) else some (!stop)
def ctHolds : Nat → CT → List ByteArray → Option Bool
  | 0, _, _ => none
  | k + 1, t, S => if t.kind = 1 then (if t.name.size ≤ 9223372036854775807 then some (seenW S t.name) else none) else if t.kind = 2 then some true else if t.kind = 4 then (if 0 < t.kids.length then (ctHolds k (t.kids.getD 0 (.node 0 ⟨#[]⟩ [])) S).bind fun b => some (!b) else none) else if t.kind = 5 then anyL (fun x => ctHolds k x S) false k t.kids 0 else if t.kind = 6 then anyL (fun x => ctHolds k x S) true k t.kids 0 else some false
def impl_Holds.f (k : Nat) (l0 : List S45) (l1 : List ByteArray) : Option Bool := (impl_condTree.f k l0).bind fun t => match t with | none => some false | some x => if (l1.length : Int) ≤ 2000 then (if (l1.all fun s => decide (s.size ≤ 9223372036854775807)) = true then ctHolds k x l1 else none) else some false
theorem anyL_mono {f g : CT → Option Bool} (stop : Bool) (h : ∀ j, LeO (f j) (g j)) : ∀ k l i, LeO (anyL f stop k l i) (anyL g stop (k + 1) l i)
  | 0, _, _ => fun r h => by simp [anyL] at h
  | k + 1, l, i => by
    unfold anyL
    exact LeO.ite (LeO.ite (LeO.bind (h _) fun t => LeO.ite (LeO.refl _) (anyL_mono stop h k _ _)) (LeO.refl _)) (LeO.refl _)
theorem ctHolds_mono : ∀ k t S, LeO (ctHolds k t S) (ctHolds (k + 1) t S)
  | 0, _, _ => fun r h => by simp [ctHolds] at h
  | k + 1, t, S => by
    rw [ctHolds, ctHolds]
    exact LeO.ite (LeO.refl _) (LeO.ite (LeO.refl _) (LeO.ite (LeO.ite (LeO.bind (ctHolds_mono k _ _) fun _ => LeO.refl _) (LeO.refl _)) (LeO.ite (anyL_mono _ (fun x => ctHolds_mono k x S) k _ _) (LeO.ite (anyL_mono _ (fun x => ctHolds_mono k x S) k _ _) (LeO.refl _)))))
theorem impl_Holds.mono : ∀ a0 a1 k, LeO (impl_Holds.f k a0 a1) (impl_Holds.f (k + 1) a0 a1) := by
  intro a0 a1 k
  unfold impl_Holds.f
  refine LeO.bind (impl_condTree.mono _ _) fun t => ?_
  cases t with
  | none => exact LeO.refl _
  | some x => exact LeO.ite (LeO.ite (ctHolds_mono _ _ _) (LeO.refl _)) (LeO.refl _)
theorem seenMap_step' (l : List ByteArray) (k : Nat) (h : k < l.length) (s : ByteArray) (hs : rdOf ByteArray.empty l (k : Int) = s) : seenMap (l.take (k + 1)) = (seenMap (l.take k)).put (skey s) (.lit (.int .i64 1)) := by
  have e : l[k] = s := by
    rw [← hs]
    unfold rdOf
    simp [List.getD_eq_getElem?_getD, List.getElem?_eq_getElem h]
  rw [← List.take_append_getElem h, e, seenMap_snoc]
theorem zero3_ (w : World) : (zeroValue 3).run Try.prog w = .ok (.int .i64 0) w := by kernel_rfl
set_option maxHeartbeats 4000000 in
set_option maxRecDepth 100000 in
theorem ct_set (A0 : Option Addr) (c0 : Nat) (l0 : List ByteArray) (w : World) (hr0 : Kd.C Kd.string w A0 l0.length l0) (hl : l0.length ≤ 2000) (hsz0 : ∀ s ∈ l0, s.size ≤ maxLen) :
    Calls Try.prog 33 #[.slice A0 l0.length c0] w fun e w' => ∃ g n, e = .returned (.map (some g)) ∧ w'.ownsMap Try.prog 9 (plainElem Try.prog 3) g n (seenMap l0) ∧ Below w.heap.size w w' := by
  have HR0 := Aside0.mk hr0
  have hsz := Aside0.mk hsz0
  have hlen := Aside0.mk hl
  clear hr0 hsz0 hl
  have hmm := @run_makeMap Try.prog
  go_enter Try.func33, Try.ntmps33
  go_wp2
  go_loopw [9] (fun i wr => ∃ (x : Int) (k : Nat), i = .int .i64 x ∧ Aside0 (x = (k : Int) ∧ k ≤ l0.length) ∧ wr.ownsMap Try.prog 9 (plainElem Try.prog 3) w.heap.size k (seenMap (l0.take k)) ∧ Aside0 (Below w.heap.size w wr))
    (fun i _ => l0.length - (intOf i).toNat)
  case atStart => exact ⟨0, 0, rfl, ⟨rfl, Nat.zero_le _⟩, World.ownsMap_made _ _ _ _, ⟨(Below.refl _ _).alloc (Nat.le_refl _) _⟩⟩
  case round =>
    obtain ⟨x, k, rfl, hk, hown, hnx⟩ := hrel
    by_cases hlt : k < l0.length
    · have cb : decide (x < (l0.length : Int)) = true := decide_eq_true (by have := hk.out.1; omega)
      have p : 0 ≤ x := by have := hk.out.1; omega
      have q : x < (l0.length : Int) := by have := hk.out.1; omega
      obtain ⟨s, hs⟩ : ∃ s, rdOf ByteArray.empty l0 x = s := ⟨_, rfl⟩
      obtain ⟨ad, e, hx⟩ := Kd.at_string (Kd.C_below HR0.out hnx.out) x p q
      cases e
      rw [hs] at hx
      replace p := eq_true p
      replace q := eq_true q
      have hs' : Aside0 (rdOf ByteArray.empty l0 (k : Int) = s) := ⟨by rw [← hk.out.1]; exact hs⟩
      have hss : s.size ≤ maxLen := by
        rw [← hs'.out]
        unfold rdOf
        simp only [Int.toNat_natCast, List.getD_eq_getElem?_getD, List.getElem?_eq_getElem hlt, Option.getD_some]
        exact hsz.out _ (List.getElem_mem hlt)
      have hkey : keyOf Try.prog 9 (.string s) = some (skey s) := Go.WideMaps.keyOf_string_mk Try.underlying9 hss
      have hn : k < maxLen := by have := hlen.out; unfold maxLen; omega
      clear hs hss
      have hlt' := Aside0.mk hlt
      clear hlt
      go_wp2_with (first
        | (at_mapUpdate; refine wpList_mapUpdate_own _ rfl _ _ _ 51 rfl 9 3 (Go.Maps.string_keyed Try.underlying9) Try.underlying51 _ w.heap.size k _ rfl hown hn _ _ _ rfl rfl hkey _ [] (plainElem_int Try.underlying3 (by decide)) ?_)
        | go_in)
      intro w1 hown1 hgrow1
      have R1 := (seenMap_step' l0 k hlt'.out s hs'.out).symm ▸ hown1
      have R2 := Aside0.mk (hnx.out.grown hgrow1 hnx.out.size (fun j hj => by cases hj; exact Nat.le_refl _))
      clear hown1 hgrow1 hown hkey
      go_wp2
      go_roundw
      case rel => exact ⟨_, k + 1, rfl, ⟨by have := hk.out; have := hlen.out; have := hlt'.out; unfold wrap64; omega, hlt'.out⟩, R1, R2⟩
      case measure =>
        have := hk.out
        have := hlen.out
        have := hlt'.out
        have e : wrap64 (x + 1) = x + 1 := by unfold wrap64; omega
        simp [intOf, e]
        omega
    · have cb : decide (x < (l0.length : Int)) = false := decide_eq_false (by have := hk.out; omega)
      have e : k = l0.length := by have := hk.out.2; omega
      subst e
      rw [List.take_length] at hown
      have hM := Aside0.mk hown
      clear hown
      go_wp2
      go_ret
      exact ⟨_, _, rfl, hM.out, hnx.out⟩
theorem map_drewN {w : World} {P : Program} {k e : TypeId} {g n : Nat} {D : DataW Unit} (h : w.ownsMap P k (plainElem P e) g n D) (m : Nat) : (w.drewN m).ownsMap P k (plainElem P e) g n D := by
  obtain ⟨es, clock, ho, hr⟩ := h
  exact ⟨es, clock, blk_drewN ho m, hr⟩
theorem ct_kid {w : World} {A : Option Addr} {n : Nat} {ks : List CT} (h : (Kd.ct 71 47).C w A n ks) (i : Int) (h0 : 0 ≤ i) (h1 : i < n) : ∃ ad v, A = some ad ∧ w.cell? (ad.add i.toNat) = some v ∧ (Kd.ct 71 47).K w (ks.getD i.toNat (.node 0 ⟨#[]⟩ [])) [v] := by
  obtain ⟨ad, c, rfl, hl, hK, hc⟩ := Kd.C_get h (.node 0 ⟨#[]⟩ []) i h0 h1
  obtain ⟨b, A1, c1, rfl, _⟩ := Kd.ct_K hK
  have h2 := hc 0 _ rfl
  rw [show (Kd.ct 71 47).sz = 1 from rfl, Nat.mul_one, Nat.add_zero] at h2
  exact ⟨ad, _, rfl, h2, hK⟩
set_option maxHeartbeats 8000000 in
set_option maxRecDepth 100000 in
theorem ct_holds (k : Nat) : ∀ (t : CT) (S : List ByteArray) (v : Value) (g n : Nat) (r : Bool) (w : World), (Kd.ct 71 47).K w t [v] → w.ownsMap Try.prog 9 (plainElem Try.prog 3) g n (seenMap S) → ctHolds k t S = some r →
    Calls Try.prog 32 #[v, .map (some g)] w fun e w' => e = .returned (.bool r) ∧ Drawn0 w w' := by
  induction k with
  | zero => intro t S v g n r w _ _ h; simp [ctHolds] at h
  | succ k ih =>
  intro t S v g n r w hK hM h
  rw [ctHolds] at h
  obtain ⟨b, A, c, e_, hb, hle, hC⟩ := Kd.ct_K hK
  obtain rfl : v = .pointer (some ⟨b, 0, none⟩) := (by injection e_)
  clear e_ hK
  have kx0_ : w.cell? ⟨b, 0, none⟩ = some (.int .i64 t.kind) := (blk_cell hb 0).trans rfl
  have kx1_ : w.cell? ⟨b, 1, none⟩ = some (.string t.name) := (blk_cell hb 1).trans rfl
  have kx2_ : w.cell? ⟨b, 2, none⟩ = some (.slice A t.kids.length c) := (blk_cell hb 2).trans rfl
  have HC := Aside0.mk hC; have HM := Aside0.mk hM
  clear hb hle hC hM
  by_cases k1 : t.kind = 1
  · rw [if_pos k1] at h
    have k1e : (t.kind == 1) = true := beq_iff_eq.mpr k1
    have k1n : (t.kind != 1) = false := bne_eq_false_iff_eq.mpr k1
    by_cases hs : t.name.size ≤ 9223372036854775807
    case neg => rw [if_neg hs] at h; simp at h
    rw [if_pos hs] at h
    obtain rfl := Option.some.inj h
    clear h
    have hkey : keyOf Try.prog 9 (.string t.name) = some (skey t.name) := Go.WideMaps.keyOf_string_mk Try.underlying9 (by simpa [maxLen] using hs)
    obtain ⟨cc, hrun, hat, _⟩ := HM.out.lookup_int (Go.Maps.string_keyed Try.underlying9) Try.underlying51 Try.underlying3 (zero3_ _) hkey
    rw [seenMap_at] at hat
    clear hs hkey HM HC
    cases hseen : seenW S t.name
    · rw [hseen] at hat
      obtain rfl : (0 : Int) = cc := by injection hat with hat; injection hat
      clear hat hseen
      go_enter Try.func32, Try.ntmps32
      go_wp2
      go_ret
      exact ⟨rfl, by repeat (first | exact Drawn0.refl _ | apply Drawn0.step)⟩
    · rw [hseen] at hat
      obtain rfl : (1 : Int) = cc := by injection hat with hat; injection hat
      clear hat hseen
      go_enter Try.func32, Try.ntmps32
      go_wp2
      go_ret
      exact ⟨rfl, by repeat (first | exact Drawn0.refl _ | apply Drawn0.step)⟩
  rw [if_neg k1] at h
  have k1e : (t.kind == 1) = false := beq_eq_false_iff_ne.mpr k1
  have k1n : (t.kind != 1) = true := bne_iff_ne.mpr k1
  by_cases k2 : t.kind = 2
  · rw [if_pos k2] at h
    have k2e : (t.kind == 2) = true := beq_iff_eq.mpr k2
    have k2n : (t.kind != 2) = false := bne_eq_false_iff_eq.mpr k2
    obtain rfl := Option.some.inj h
    clear h
    go_enter Try.func32, Try.ntmps32
    go_wp2
    go_ret
    exact ⟨rfl, by repeat (first | exact Drawn0.refl _ | apply Drawn0.step)⟩
  rw [if_neg k2] at h
  have k2e : (t.kind == 2) = false := beq_eq_false_iff_ne.mpr k2
  have k2n : (t.kind != 2) = true := bne_iff_ne.mpr k2
  by_cases k4 : t.kind = 4
  · rw [if_pos k4] at h
    have k4e : (t.kind == 4) = true := beq_iff_eq.mpr k4
    have k4n : (t.kind != 4) = false := bne_eq_false_iff_eq.mpr k4
    by_cases h0 : 0 < t.kids.length
    case neg => rw [if_neg h0] at h; simp at h
    rw [if_pos h0] at h
    obtain ⟨bb, e1, h⟩ := Option.bind_eq_some_iff.mp h
    obtain rfl := Option.some.inj h
    have E1 := Aside0.mk e1
    obtain ⟨ad, v0, rfl, hx, hK0⟩ := ct_kid HC.out 0 (Int.le_refl _) (by omega)
    rw [show (0 : Int).toNat = 0 from rfl] at hx hK0
    have hy := hx
    rw [Addr.add_zero'] at hy
    have HK0 := Aside0.mk hK0
    have q0 : decide ((0 : Int) < (t.kids.length : Int)) = true := decide_eq_true (by omega)
    have q1 : (0 < t.kids.length) = True := eq_true h0
    clear h e1 hK0 h0
    go_enter Try.func32, Try.ntmps32
    go_wp2_with (first | ((go_at_call 32); (with_reducible refine (ih _ S _ g n bb _ (by first | exact HK0.out | exact (Kd.ct 71 47).K_below (pw_below_drewN (Below.refl _ _) _) HK0.out) (by first | exact HM.out | exact map_drewN HM.out _) E1.out).mono ?_); rintro e_ w3 ⟨rfl, ⟨nd_, rfl⟩⟩))
    go_ret
    exact ⟨rfl, by repeat (first | exact Drawn0.refl _ | apply Drawn0.step)⟩
  rw [if_neg k4] at h
  have k4e : (t.kind == 4) = false := beq_eq_false_iff_ne.mpr k4
  have k4n : (t.kind != 4) = true := bne_iff_ne.mpr k4
  by_cases k5 : t.kind = 5
  · rw [if_pos k5] at h
    have k5e : (t.kind == 5) = true := beq_iff_eq.mpr k5
    have k5n : (t.kind != 5) = false := bne_eq_false_iff_eq.mpr k5
    have H := Aside0.mk h
    clear h
    go_enter Try.func32, Try.ntmps32
    go_wp2
    go_loopg [6, 42] k (fun kq v6 v42 w' => ∃ (i : Int), v42 = .int .i64 i ∧ Aside0 (anyL (fun x => ctHolds k x S) false kq t.kids i = some r) ∧ Aside0 (kq ≤ k) ∧ Drawn0 w w')
    case atStart => exact ⟨_, rfl, H, ⟨Nat.le_refl _⟩, by repeat (first | exact Drawn0.refl _ | apply Drawn0.step)⟩
    case round =>
      clear H
      obtain ⟨i, rfl, HL, HKq, ⟨m2, rfl⟩⟩ := hrel
      cases gk with
      | zero => exact absurd HL.out (by simp [anyL])
      | succ kq =>
        have h := HL.out
        clear HL
        unfold anyL at h
        by_cases c6 : i < (t.kids.length : Int)
        · rw [if_pos c6] at h
          have b6 : decide (i < (t.kids.length : Int)) = true := decide_eq_true c6
          by_cases c7 : 0 ≤ i
          case neg => rw [if_neg c7] at h; simp at h
          rw [if_pos c7] at h
          obtain ⟨ad, v0, rfl, hx, hK0⟩ := ct_kid HC.out i c7 c6
          have HK0 := Aside0.mk hK0
          have p7 := eq_true c7
          have q7 := eq_true c6
          clear hK0 c6 c7
          obtain ⟨bb, e1, h⟩ := Option.bind_eq_some_iff.mp h
          have E1 := Aside0.mk e1
          clear e1
          cases bb with
          | false =>
            obtain rfl : false = r := by simpa using h
            clear h
            go_wp2_with (first | ((go_at_call 32); (with_reducible refine (ih _ S _ g n false _ (by first | exact HK0.out | exact (Kd.ct 71 47).K_below (pw_below_drewN (Below.refl _ _) _) HK0.out) (by first | exact HM.out | exact map_drewN HM.out _) E1.out).mono ?_); rintro e_ w3 ⟨rfl, ⟨nd_, rfl⟩⟩))
            go_ret
            exact ⟨rfl, by repeat (first | exact Drawn0.refl _ | apply Drawn0.step)⟩
          | true =>
            have H := Aside0.mk (show anyL (fun x => ctHolds k x S) false kq t.kids (wrap64 (i + 1)) = some r from by simpa using h)
            clear h
            go_wp2_with (first | ((go_at_call 32); (with_reducible refine (ih _ S _ g n true _ (by first | exact HK0.out | exact (Kd.ct 71 47).K_below (pw_below_drewN (Below.refl _ _) _) HK0.out) (by first | exact HM.out | exact map_drewN HM.out _) E1.out).mono ?_); rintro e_ w3 ⟨rfl, ⟨nd_, rfl⟩⟩))
            go_roundg kq
            case measure => have := HKq.out; omega
            case rel => exact ⟨_, rfl, H, ⟨by have := HKq.out; omega⟩, by repeat (first | exact Drawn0.refl _ | apply Drawn0.step)⟩
        · rw [if_neg c6] at h
          have b6 : decide (i < (t.kids.length : Int)) = false := decide_eq_false c6
          obtain rfl : true = r := by simpa using h
          clear h c6
          go_wp2
          go_ret
          exact ⟨rfl, by repeat (first | exact Drawn0.refl _ | apply Drawn0.step)⟩
  rw [if_neg k5] at h
  have k5e : (t.kind == 5) = false := beq_eq_false_iff_ne.mpr k5
  have k5n : (t.kind != 5) = true := bne_iff_ne.mpr k5
  by_cases k6 : t.kind = 6
  · rw [if_pos k6] at h
    have k6e : (t.kind == 6) = true := beq_iff_eq.mpr k6
    have k6n : (t.kind != 6) = false := bne_eq_false_iff_eq.mpr k6
    have H := Aside0.mk h
    clear h
    go_enter Try.func32, Try.ntmps32
    go_wp2
    go_loopg [8, 58] k (fun kq v8 v58 w' => ∃ (i : Int), v58 = .int .i64 i ∧ Aside0 (anyL (fun x => ctHolds k x S) true kq t.kids i = some r) ∧ Aside0 (kq ≤ k) ∧ Drawn0 w w')
    case atStart => exact ⟨_, rfl, H, ⟨Nat.le_refl _⟩, by repeat (first | exact Drawn0.refl _ | apply Drawn0.step)⟩
    case round =>
      clear H
      obtain ⟨i, rfl, HL, HKq, ⟨m2, rfl⟩⟩ := hrel
      cases gk with
      | zero => exact absurd HL.out (by simp [anyL])
      | succ kq =>
        have h := HL.out
        clear HL
        unfold anyL at h
        by_cases c6 : i < (t.kids.length : Int)
        · rw [if_pos c6] at h
          have b6 : decide (i < (t.kids.length : Int)) = true := decide_eq_true c6
          by_cases c7 : 0 ≤ i
          case neg => rw [if_neg c7] at h; simp at h
          rw [if_pos c7] at h
          obtain ⟨ad, v0, rfl, hx, hK0⟩ := ct_kid HC.out i c7 c6
          have HK0 := Aside0.mk hK0
          have p7 := eq_true c7
          have q7 := eq_true c6
          clear hK0 c6 c7
          obtain ⟨bb, e1, h⟩ := Option.bind_eq_some_iff.mp h
          have E1 := Aside0.mk e1
          clear e1
          cases bb with
          | true =>
            obtain rfl : true = r := by simpa using h
            clear h
            go_wp2_with (first | ((go_at_call 32); (with_reducible refine (ih _ S _ g n true _ (by first | exact HK0.out | exact (Kd.ct 71 47).K_below (pw_below_drewN (Below.refl _ _) _) HK0.out) (by first | exact HM.out | exact map_drewN HM.out _) E1.out).mono ?_); rintro e_ w3 ⟨rfl, ⟨nd_, rfl⟩⟩))
            go_ret
            exact ⟨rfl, by repeat (first | exact Drawn0.refl _ | apply Drawn0.step)⟩
          | false =>
            have H := Aside0.mk (show anyL (fun x => ctHolds k x S) true kq t.kids (wrap64 (i + 1)) = some r from by simpa using h)
            clear h
            go_wp2_with (first | ((go_at_call 32); (with_reducible refine (ih _ S _ g n false _ (by first | exact HK0.out | exact (Kd.ct 71 47).K_below (pw_below_drewN (Below.refl _ _) _) HK0.out) (by first | exact HM.out | exact map_drewN HM.out _) E1.out).mono ?_); rintro e_ w3 ⟨rfl, ⟨nd_, rfl⟩⟩))
            go_roundg kq
            case measure => have := HKq.out; omega
            case rel => exact ⟨_, rfl, H, ⟨by have := HKq.out; omega⟩, by repeat (first | exact Drawn0.refl _ | apply Drawn0.step)⟩
        · rw [if_neg c6] at h
          have b6 : decide (i < (t.kids.length : Int)) = false := decide_eq_false c6
          obtain rfl : false = r := by simpa using h
          clear h c6
          go_wp2
          go_ret
          exact ⟨rfl, by repeat (first | exact Drawn0.refl _ | apply Drawn0.step)⟩
  rw [if_neg k6] at h
  have k6e : (t.kind == 6) = false := beq_eq_false_iff_ne.mpr k6
  have k6n : (t.kind != 6) = true := bne_iff_ne.mpr k6
  obtain rfl := Option.some.inj h
  clear h
  go_enter Try.func32, Try.ntmps32
  go_wp2
  go_ret
  exact ⟨rfl, by repeat (first | exact Drawn0.refl _ | apply Drawn0.step)⟩
set_option maxHeartbeats 8000000 in
set_option maxRecDepth 100000 in
theorem impl_Holds.calls (k : Nat) (A0 : Option Addr) (c0 : Nat) (l0 : List (S45)) (A1 : Option Addr) (c1 : Nat) (l1 : List ByteArray) (r : Bool) (w : World) (hr0 : Kd.C k45 w A0 l0.length l0) (hc0 : l0.length ≤ c0) (hr1 : Kd.C Kd.string w A1 l1.length l1) (_hc1 : l1.length ≤ c1) (h : impl_Holds.f k l0 l1 = some r) :
    Calls Try.prog 16 #[.slice A0 l0.length c0, .slice A1 l1.length c1] w fun e w' => e = .returned (.bool r) ∧ Below w.heap.size w w' := by
  have HR0 := Aside0.mk hr0
  have HC0 := Aside0.mk hc0
  have HR1 := Aside0.mk hr1
  clear hr0 hc0 hr1
  unfold impl_Holds.f at h
  obtain ⟨t, e1, h2⟩ := Option.bind_eq_some_iff.mp h
  clear h
  have E1 := Aside0.mk e1
  clear e1
  cases t with
  | none =>
    obtain rfl : false = r := by simpa using h2
    clear h2
    go_enter Try.func16, Try.ntmps16
    go_wp2_with (first | ((go_at_call 29); (with_reducible refine (ct_tree k A0 c0 l0 none w HR0.out HC0.out E1.out).mono ?_); rintro e_ w5 ⟨v5, rfl, hres_, hb_⟩; obtain rfl : v5 = .pointer none := hres_; have HB := Aside0.mk hb_; clear hb_))
    go_ret
    exact ⟨rfl, HB.out⟩
  | some t =>
    replace h2 : (if (l1.length : Int) ≤ 2000 then (if (l1.all fun s => decide (s.size ≤ 9223372036854775807)) = true then ctHolds k t l1 else none) else some false) = some r := h2
    by_cases c1 : (l1.length : Int) ≤ 2000
    · rw [if_pos c1] at h2
      by_cases c2 : (l1.all fun s => decide (s.size ≤ 9223372036854775807)) = true
      case neg => rw [if_neg c2] at h2; simp at h2
      rw [if_pos c2] at h2
      have hsz : Aside0 (∀ s ∈ l1, s.size ≤ maxLen) := ⟨fun s hs => by have := List.all_eq_true.mp c2 s hs; simpa [maxLen] using this⟩
      have hlen := Aside0.mk (show l1.length ≤ 2000 by omega)
      have b1 : decide ((l1.length : Int) ≤ 2000) = true := decide_eq_true c1
      have E2 := Aside0.mk h2
      clear c1 c2 h2
      go_enter Try.func16, Try.ntmps16
      go_wp2_with (first
        | ((go_at_call 29); (with_reducible refine (ct_tree k A0 c0 l0 (some t) w HR0.out HC0.out E1.out).mono ?_); rintro e_ w5 ⟨v5, rfl, hres_, hb_⟩; have HF := Aside0.mk (Foot.now hres_); obtain ⟨b5_, A5_, c5_, e5_, _⟩ := Kd.ct_FK hres_; obtain rfl : v5 = .pointer (some ⟨b5_, 0, none⟩) := (by injection e5_); have HB := Aside0.mk hb_; clear hb_ hres_ e5_)
        | ((go_at_call 33); (with_reducible refine (ct_set A1 c1 l1 _ (Kd.C_below HR1.out HB.out) hlen.out hsz.out).mono ?_); rintro e_ w6 ⟨g6_, n6_, rfl, hm_, hb_⟩; have HM := Aside0.mk hm_; have HF2 := Aside0.mk ((Kd.ct 71 47).K_below hb_ HF.out); have HB2 := Aside0.mk (below_step HB.out hb_); clear hb_ hm_ HB HF; have HB := HB2; have HF := HF2; clear HB2 HF2)
        | ((go_at_call 32); (with_reducible refine (ct_holds k t l1 _ g6_ n6_ r _ HF.out HM.out E2.out).mono ?_); rintro e_ w7 ⟨rfl, ⟨nd_, rfl⟩⟩))
      go_ret
      exact ⟨rfl, by repeat (first | (with_reducible first | exact HB.out | apply below_alloc | apply pw_below_drewN | apply below_drew1) | exact HB.out)⟩
    · rw [if_neg c1] at h2
      obtain rfl := Option.some.inj h2
      have b1 : decide ((l1.length : Int) ≤ 2000) = false := decide_eq_false c1
      clear c1 h2
      go_enter Try.func16, Try.ntmps16
      go_wp2_with (first
        | ((go_at_call 29); (with_reducible refine (ct_tree k A0 c0 l0 (some t) w HR0.out HC0.out E1.out).mono ?_); rintro e_ w5 ⟨v5, rfl, hres_, hb_⟩; obtain ⟨b5_, A5_, c5_, e5_, _⟩ := Kd.ct_FK hres_; obtain rfl : v5 = .pointer (some ⟨b5_, 0, none⟩) := (by injection e5_); have HB := Aside0.mk hb_; clear hb_ hres_ e5_))
      go_ret
      exact ⟨rfl, HB.out⟩

end Go.Proofs.Ytoipkndeeeolcaa.PFnExactHolds
