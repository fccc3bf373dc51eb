-- Laid by a program of this session: a turned copy of the kit's print, with contracts by hand beside.
import Derived.Test.YtoipkndeeeolcaaPFnExactPlainx0
import Derived.Test.YtoipkndeeeolcaaPFnExactPlainx6
namespace Go.Proofs.Ytoipkndeeeolcaa.PFnExactPlain
open Go.RowKit Go.Proofs.YtoipkndeeeolcaaW.PrintWords Go.Proofs.YtoipkndeeeolcaaW.PrintLast Go.Proofs.YtoipkndeeeolcaaW.PrintMore
attribute [local go_sem] max2_int min2_int max_two min_two max_three min_three max_four min_four   -- for this text's walks alone
set_option linter.unusedVariables false
set_option linter.unusedSimpArgs false

/-! ### impl_Plain: function 19 -/
def ctKids (f : Int → Option (Option CT × Int)) : Nat → Int → Int → List CT → Option (Option (List CT) × Int)
  | 0, _, _, _ => none
  | k + 1, stop, i, acc => if i < stop then (if acc.length < 1000000 then (f i).bind fun t => (match t.1 with | none => some (none, t.2) | some x => ctKids f k stop t.2 (acc ++ [x])) else none) else some (some acc, i)
def ctOk (k : Nat) (c : S45) (n : Int) : Option Bool := if c.f0 = 1 then (if n = 0 then (impl_NameOk.f k c.f1).bind fun t => some (t && (c.f1.toList != [116, 114, 117, 101]) && (c.f1.toList != [102, 97, 108, 115, 101])) else some false) else if c.f0 = 2 then some ((n == 0) && (c.f1.toList == [])) else if c.f0 = 3 then some ((n == 0) && (c.f1.toList == [])) else if c.f0 = 4 then some ((n == 1) && (c.f1.toList == [])) else if c.f0 = 5 then some (decide (2 ≤ n) && (c.f1.toList == [])) else if c.f0 = 6 then some (decide (2 ≤ n) && (c.f1.toList == [])) else some false
def ctEnd (k : Nat) (c : S45) (t : Option (List CT) × Int) : Option (Option CT × Int) := match t.1 with | none => some (none, t.2) | some ks => (ctOk k c (ks.length : Int)).bind fun b => some (if b = true then some (.node c.f0 c.f1 ks) else none, t.2)
def ctTake : Nat → List S45 → Int → Int → Int → Option (Option CT × Int)
  | 0, _, _, _, _ => none
  | k + 1, cs, d, e, i => if e ≤ i then some (none, i) else if 60 < d then some (none, i) else if 0 ≤ i ∧ i < (cs.length : Int) then (if (rd_T45 cs i).f2 < 0 then some (none, i) else if wrap64 ((wrap64 (e - i)) - 1) < (rd_T45 cs i).f2 then some (none, i) else (ctKids (fun j => ctTake k cs (wrap64 (d + 1)) (wrap64 ((wrap64 (i + 1)) + (rd_T45 cs i).f2)) j) k (wrap64 ((wrap64 (i + 1)) + (rd_T45 cs i).f2)) (wrap64 (i + 1)) []).bind fun t => ctEnd k (rd_T45 cs i) t) else none
def impl_condTree.f (k : Nat) (l0 : List S45) : Option (Option CT) := if (l0.length : Int) > 300 then some none else (ctTake k l0 0 (l0.length : Int) 0).bind fun t => if t.2 = (l0.length : Int) then some t.1 else some none
theorem ctKids_mono {f g : Int → Option (Option CT × Int)} (h : ∀ j, LeO (f j) (g j)) : ∀ k stop i acc, LeO (ctKids f k stop i acc) (ctKids g (k + 1) stop i acc)
  | 0, _, _, _ => fun r h => by simp [ctKids] at h
  | k + 1, stop, i, acc => by
    unfold ctKids
    refine LeO.ite (LeO.ite (LeO.bind (h _) fun t => ?_) (LeO.refl _)) (LeO.refl _)
    cases t.1 with
    | none => exact LeO.refl _
    | some x => exact ctKids_mono h k _ _ _
theorem ctOk_mono (k : Nat) (c : S45) (n : Int) : LeO (ctOk k c n) (ctOk (k + 1) c n) := by
  unfold ctOk
  exact LeO.ite (LeO.ite (LeO.bind (impl_NameOk.mono _ _) fun _ => LeO.refl _) (LeO.refl _)) (LeO.refl _)
theorem ctTake_mono : ∀ k cs d e i, LeO (ctTake k cs d e i) (ctTake (k + 1) cs d e i)
  | 0, _, _, _, _ => fun r h => by simp [ctTake] at h
  | k + 1, cs, d, e, i => by
    rw [ctTake, ctTake]
    refine LeO.ite (LeO.refl _) (LeO.ite (LeO.refl _) (LeO.ite (LeO.ite (LeO.refl _) (LeO.ite (LeO.refl _) (LeO.bind (ctKids_mono (fun j => ctTake_mono k cs _ _ j) k _ _ _) fun t => ?_))) (LeO.refl _)))
    unfold ctEnd
    cases t.1 with
    | none => exact LeO.refl _
    | some ks => exact LeO.bind (ctOk_mono _ _ _) fun _ => LeO.refl _
theorem impl_condTree.mono : ∀ a0 k, LeO (impl_condTree.f k a0) (impl_condTree.f (k + 1) a0) := by
  intro a0 k
  unfold impl_condTree.f
  exact LeO.ite (LeO.refl _) (LeO.bind (ctTake_mono _ _ _ _ _) fun _ => LeO.refl _)
/-- The closure's surroundings: the captured variables and the row. -/
def CtEnv (w : World) (gi gc gt : Nat) (A0 : Option Addr) (c0 : Nat) (cs : List S45) : Prop := gc ≠ gi ∧ gt ≠ gi ∧ gi < w.heap.size ∧ w.heap[gc]? = some (.cells #[.slice A0 cs.length c0] 25 (0, 0)) ∧ w.heap[gt]? = some (.cells #[.func (.func 46) #[] #[.pointer (some ⟨gi, 0, none⟩), .pointer (some ⟨gc, 0, none⟩), .pointer (some ⟨gt, 0, none⟩)]] 68 (0, 0)) ∧ cs.length ≤ c0 ∧ ∀ W', KeepBut w W' gi none → Kd.C k45 W' A0 cs.length cs
theorem CtEnv.step {w w1 : World} {gi gc gt : Nat} {A0 : Option Addr} {c0 : Nat} {cs : List S45} (h : CtEnv w gi gc gt A0 c0 cs) (hk : KeepBut w w1 gi none) : CtEnv w1 gi gc gt A0 c0 cs := by
  obtain ⟨h1, h2, h3, h4, h5, h6, h7⟩ := h
  refine ⟨h1, h2, Nat.lt_of_lt_of_le h3 hk.1, ?_, ?_, h6, fun W' hk' => h7 W' (hk.trans hk' (.inl rfl))⟩
  · rw [hk.2 gc (Array.getElem?_eq_some_iff.1 h4).1 h1 (by simp)]; exact h4
  · rw [hk.2 gt (Array.getElem?_eq_some_iff.1 h5).1 h2 (by simp)]; exact h5
def Kp (g : Nat) (w w' : World) : Prop := Below g w w' ∧ KeepBut w w' g none
theorem Kp.refl (g : Nat) (w : World) : Kp g w w := ⟨Below.refl _ _, KeepBut.refl _ _ _⟩
theorem Kp.trans {g : Nat} {w W W' : World} (h : Kp g w W) (h2 : Kp g W W') : Kp g w W' := ⟨h.1.trans h2.1, h.2.trans h2.2 (.inl rfl)⟩
theorem Kp.put {g b : Nat} {w W W' : World} (h : Kp g w W) (hp : Put b W W') (hb : w.heap.size ≤ b ∨ b = g) (hg : g < w.heap.size) : Kp g w W' := by
  have hs := h.2.1
  refine ⟨⟨hp.os.trans h.1.os, hp.tape.trans h.1.tape, hp.output.trans h.1.output, by rw [hp.size]; exact hs, fun k hk => (hp.block k (by omega)).trans (h.1.block k hk)⟩, by rw [hp.size]; exact hs, fun k hk hne hr => (hp.block k ?_).trans (h.2.2 k hk hne hr)⟩
  rcases hb with hb | rfl
  · omega
  · exact hne
theorem Kp.below {g : Nat} {w W W' : World} (h : Kp g w W) (hb : Below W.heap.size W W') (hg : g < w.heap.size) : Kp g w W' := by
  have hs := h.2.1
  exact ⟨h.1.trans (hb.mono (by omega)), Nat.le_trans hs hb.size, fun k hk hne hr => (hb.block k (by omega)).trans (h.2.2 k hk hne hr)⟩
theorem Kp.grown {g : Nat} {w W W' : World} (h : Kp g w W) {row : Option Nat} (hg : W.grownBy W' row) (hr : ∀ k, row = some k → w.heap.size ≤ k) (hl : g < w.heap.size) : Kp g w W' := by
  have hs := h.2.1
  have hne : ∀ k, k < w.heap.size → some k ≠ row := fun k hk e => by have := hr k e.symm; omega
  exact ⟨⟨hg.os.trans h.1.os, hg.tape.trans h.1.tape, hg.output.trans h.1.output, Nat.le_trans hs hg.size, fun k hk => (hg.block k (by omega) (hne k (by omega))).trans (h.1.block k hk)⟩, Nat.le_trans hs hg.size, fun k hk hne' hr' => (hg.block k (by omega) (hne k hk)).trans (h.2.2 k hk hne' hr')⟩
/-- What the closure hands back. -/
def CtRes (w w' : World) (v : Value) : Option CT → Prop
  | none => v = .pointer none
  | some t => Kd.FK (Kd.ct 71 47) w' (fun k => w.heap.size ≤ k) t [v]
def CtPost (gi : Nat) (w : World) (r : Option CT) (j : Int) (e : Ending) (w' : World) : Prop := ∃ v, e = .returned v ∧ CtRes w w' v r ∧ w'.heap[gi]? = some (.cells #[.int .i64 j] 3 (0, 0)) ∧ Kp gi w w'
theorem Put.cell {w : World} (g j : Nat) (u : Value) : Put g w (w.setCell ⟨g, j, none⟩ u) := ⟨rfl, rfl, rfl, by simp [World.setCell], fun k hk => Below.heap_setCell w ⟨g, j, none⟩ u k hk⟩
/-- Midway: the node's copy and its box, the kids so far. -/
structure CtSt (gi gc gt : Nat) (A0 : Option Addr) (c0 : Nat) (cs : List S45) (w W : World) (i : Int) (gb : Nat) (c : S45) : Prop where
  env0 : CtEnv w gi gc gt A0 c0 cs
  hi : W.heap[gi]? = some (.cells #[.int .i64 i] 3 (0, 0))
  hc : W.heap[gb]? = some (.cells #[.int .i64 c.f0, .string c.f1, .int .i64 c.f2] 45 (0, 0))
  kp : Kp gi w W
  ib : w.heap.size ≤ gb
theorem CtSt.ig {gi gc gt : Nat} {A0 : Option Addr} {c0 : Nat} {cs : List S45} {w W : World} {i : Int} {gb : Nat} {c : S45} (h : CtSt gi gc gt A0 c0 cs w W i gb c) : gi < w.heap.size := h.env0.2.2.1
theorem CtSt.env {gi gc gt : Nat} {A0 : Option Addr} {c0 : Nat} {cs : List S45} {w W : World} {i : Int} {gb : Nat} {c : S45} (h : CtSt gi gc gt A0 c0 cs w W i gb c) : CtEnv W gi gc gt A0 c0 cs := h.env0.step h.kp.2
structure CtStX (gi gc gt : Nat) (A0 : Option Addr) (c0 : Nat) (cs : List S45) (w W : World) (i : Int) (gb gx : Nat) (c : S45) (v : Value) (ks : List CT) : Prop extends CtSt gi gc gt A0 c0 cs w W i gb c where
  hx : W.heap[gx]? = some (.cells #[.int .i64 c.f0, .string c.f1, v] 71 (0, 0))
  hn : Kd.N (Kd.ct 71 47) 47 W w.heap.size (fun k => w.heap.size ≤ k ∧ k ≠ gx ∧ k ≠ gb) v ks
  ix : w.heap.size ≤ gx
theorem CtSt.fin {gi gc gt : Nat} {A0 : Option Addr} {c0 : Nat} {cs : List S45} {w W : World} {i : Int} {gb : Nat} {c : S45} (h : CtSt gi gc gt A0 c0 cs w W i gb c) {v : Value} (hv : v = .pointer none) : CtPost gi w none i (.returned v) W := ⟨_, rfl, hv, h.hi, h.kp⟩
theorem CtStX.fin {gi gc gt : Nat} {A0 : Option Addr} {c0 : Nat} {cs : List S45} {w W : World} {i : Int} {gb gx : Nat} {c : S45} {v u : Value} {ks : List CT} (h : CtStX gi gc gt A0 c0 cs w W i gb gx c v ks) (hu : u = .pointer none) : CtPost gi w none i (.returned u) W := h.toCtSt.fin hu
theorem CtStX.node {gi gc gt : Nat} {A0 : Option Addr} {c0 : Nat} {cs : List S45} {w W : World} {i : Int} {gb gx : Nat} {c : S45} {v u : Value} {ks : List CT} (h : CtStX gi gc gt A0 c0 cs w W i gb gx c v ks) (hu : u = .pointer (some ⟨gx, 0, none⟩)) : CtPost gi w (some (.node c.f0 c.f1 ks)) i (.returned u) W := by
  obtain ⟨A, cc, rfl⟩ := Kd.N_slice h.hn
  have hr := Kd.N_reads' h.hn
  refine ⟨_, rfl, ?_, h.hi, h.kp⟩
  rw [hu]
  exact Kd.ct_FK_mk (t := CT.node c.f0 c.f1 ks) h.ix h.hx hr.2.1 (Kd.F_mono (Kd.N_F h.hn) (fun k hk => hk.1))
/-- The copy is laid. -/
theorem CtSt.mk1 {gi gc gt : Nat} {A0 : Option Addr} {c0 : Nat} {cs : List S45} {w w2 w3 : World} {i : Int} {gb : Nat} {c : S45} (hE : CtEnv w gi gc gt A0 c0 cs) (hI : w.heap[gi]? = some (.cells #[.int .i64 i] 3 (0, 0))) (hg : gb = w.heap.size) (hb : Below w.heap.size w w2)
    (hc : w3.heap[gb]? = some (.cells #[.int .i64 c.f0, .string c.f1, .int .i64 c.f2] 45 (0, 0))) (hp : Put gb w2 w3) : CtSt gi gc gt A0 c0 cs w w3 i gb c := by
  have ig := hE.2.2.1
  have kp := (((Kp.refl gi w).below hb ig).put hp (.inl (by omega)) ig)
  exact ⟨hE, by rw [hp.block gi (by omega), hb.block gi ig]; exact hI, hc, kp, by omega⟩
/-- The counter is written. -/
theorem CtSt.setI {gi gc gt : Nat} {A0 : Option Addr} {c0 : Nat} {cs : List S45} {w W W' : World} {i i' : Int} {gb : Nat} {c : S45} (h : CtSt gi gc gt A0 c0 cs w W i gb c) (hi : W'.heap[gi]? = some (.cells #[.int .i64 i'] 3 (0, 0))) (hp : Put gi W W') : CtSt gi gc gt A0 c0 cs w W' i' gb c :=
  ⟨h.env0, hi, by rw [hp.block gb (by have := h.ib; have := h.ig; omega)]; exact h.hc, h.kp.put hp (.inr rfl) h.ig, h.ib⟩
/-- The node's box is laid. -/
theorem CtSt.box {gi gc gt : Nat} {A0 : Option Addr} {c0 : Nat} {cs : List S45} {w W W' : World} {i : Int} {gb gx : Nat} {c : S45} (h : CtSt gi gc gt A0 c0 cs w W i gb c) (hg : gx = W.heap.size) (hx : W'.heap[gx]? = some (.cells #[.int .i64 c.f0, .string c.f1, .slice none 0 0] 71 (0, 0))) (hb : Below W.heap.size W W') :
    CtStX gi gc gt A0 c0 cs w W' i gb gx c (.slice none 0 0) [] :=
  ⟨⟨h.env0, blk_below h.hi hb, blk_below h.hc hb, h.kp.below hb h.ig, h.ib⟩, hx, Kd.N_nil _ _ _ _ _, by rw [hg]; exact h.kp.2.1⟩
/-- A kid was read. -/
theorem CtStX.call {gi gc gt : Nat} {A0 : Option Addr} {c0 : Nat} {cs : List S45} {w W W' : World} {i j : Int} {gb gx : Nat} {c : S45} {v : Value} {ks : List CT} (h : CtStX gi gc gt A0 c0 cs w W i gb gx c v ks) (hi : W'.heap[gi]? = some (.cells #[.int .i64 j] 3 (0, 0))) (hk : Kp gi W W') :
    CtStX gi gc gt A0 c0 cs w W' j gb gx c v ks := by
  have ib := h.ib; have ig := h.ig; have ix := h.ix
  exact ⟨⟨h.env0, hi, by rw [hk.2.2 gb (blk_lt h.hc) (by omega) (by simp)]; exact h.hc, h.kp.trans hk, ib⟩, by rw [hk.2.2 gx (blk_lt h.hx) (by omega) (by simp)]; exact h.hx, Kd.N_keep h.hn hk.2 (fun k hk => by omega), ix⟩
/-- A kid was appended. -/
theorem CtStX.app {gi gc gt : Nat} {A0 : Option Addr} {c0 : Nat} {cs : List S45} {w W W' : World} {i : Int} {gb gx : Nat} {c : S45} {v v1 : Value} {ks ks1 : List CT} (h : CtStX gi gc gt A0 c0 cs w W i gb gx c v ks) (hn : Kd.N (Kd.ct 71 47) 47 W' w.heap.size (fun k => w.heap.size ≤ k ∧ k ≠ gx ∧ k ≠ gb) v1 ks1) (hg : W.grownBy W' v.ownBlock) :
    CtStX gi gc gt A0 c0 cs w (W'.setCell ⟨gx, 2, none⟩ v1) i gb gx c v1 ks1 := by
  have ib := h.ib; have ig := h.ig; have ix := h.ix
  have hr : ∀ k, v.ownBlock = some k → w.heap.size ≤ k ∧ k ≠ gx ∧ k ≠ gb := h.hn.1
  have hp := Put.cell (w := W') gx 2 v1
  have hxb : gx ≠ gb := blk_ne h.hx h.hc (by decide)
  have ni : some gi ≠ v.ownBlock := fun e => by have := hr gi e.symm; omega
  have nb : some gb ≠ v.ownBlock := fun e => (hr gb e.symm).2.2 rfl
  have nx : some gx ≠ v.ownBlock := fun e => (hr gx e.symm).2.1 rfl
  have hx' := blk_grown h.hx hg nx
  refine ⟨⟨h.env0, ?_, ?_, (h.kp.grown hg (fun k hk => (hr k hk).1) ig).put hp (.inl ix) ig, ib⟩, blk_put hx' 2 v1 rfl, Kd.N_far hn (fun k hk => hk.2.1) v1, ix⟩
  · rw [hp.block gi (by omega)]; exact blk_grown h.hi hg ni
  · rw [hp.block gb (fun e => hxb e.symm)]; exact blk_grown h.hc hg nb
theorem CtStX.drawn {gi gc gt : Nat} {A0 : Option Addr} {c0 : Nat} {cs : List S45} {w W W' : World} {i : Int} {gb gx : Nat} {c : S45} {v : Value} {ks : List CT} (h : CtStX gi gc gt A0 c0 cs w W i gb gx c v ks) (hd : Drawn0 W W') : CtStX gi gc gt A0 c0 cs w W' i gb gx c v ks := by
  obtain ⟨n, rfl⟩ := hd
  exact ⟨⟨h.env0, h.hi, h.hc, h.kp.below (pw_below_drewN (Below.refl _ _) n) h.ig, h.ib⟩, h.hx, Kd.N_drewN h.hn n, h.ix⟩

set_option maxHeartbeats 8000000 in
set_option maxRecDepth 100000 in
theorem ct_take (k : Nat) : ∀ (gi gc gt : Nat) (A0 : Option Addr) (c0 : Nat) (cs : List S45) (d e i : Int) (r : Option CT) (j : Int) (w : World), CtEnv w gi gc gt A0 c0 cs → w.heap[gi]? = some (.cells #[.int .i64 i] 3 (0, 0)) → ctTake k cs d e i = some (r, j) →
    Calls Try.prog 46 #[.int .i64 d, .int .i64 e, .pointer (some ⟨gi, 0, none⟩), .pointer (some ⟨gc, 0, none⟩), .pointer (some ⟨gt, 0, none⟩)] w (CtPost gi w r j) := by
  induction k with
  | zero => intro gi gc gt A0 c0 cs d e i r j w _ _ h; simp [ctTake] at h
  | succ k ih =>
  intro gi gc gt A0 c0 cs d e i r j w hE hI h
  rw [ctTake] at h
  have HE := Aside0.mk hE
  have HI := Aside0.mk hI
  have ki_ : w.cell? ⟨gi, 0, none⟩ = some (.int .i64 i) := (blk_cell hI 0).trans rfl
  have kc_ : w.cell? ⟨gc, 0, none⟩ = some (.slice A0 cs.length c0) := (blk_cell hE.2.2.2.1 0).trans rfl
  clear hE hI
  by_cases c1 : e ≤ i
  · rw [if_pos c1] at h
    obtain ⟨rfl, rfl⟩ : none = r ∧ i = j := by simpa using h
    clear h
    have b1 : decide (e ≤ i) = true := decide_eq_true c1
    clear c1
    go_enter Try.func46, Try.ntmps46
    go_wp2
    go_ret
    exact ⟨_, rfl, rfl, HI.out, Kp.refl _ _⟩
  rw [if_neg c1] at h
  have b1 : decide (e ≤ i) = false := decide_eq_false c1
  clear c1
  by_cases c2 : 60 < d
  · rw [if_pos c2] at h
    obtain ⟨rfl, rfl⟩ : none = r ∧ i = j := by simpa using h
    clear h
    have b2 : decide (60 < d) = true := decide_eq_true c2
    clear c2
    go_enter Try.func46, Try.ntmps46
    go_wp2
    go_ret
    exact ⟨_, rfl, rfl, HI.out, Kp.refl _ _⟩
  rw [if_neg c2] at h
  have b2 : decide (60 < d) = false := decide_eq_false c2
  clear c2
  by_cases c3 : 0 ≤ i ∧ i < (cs.length : Int)
  case neg => rw [if_neg c3] at h; simp at h
  rw [if_pos c3] at h
  obtain ⟨ad, e_, hx0, hx1, hx2⟩ := at_T45 (HE.out.2.2.2.2.2.2 _ (KeepBut.refl _ _ _)) i c3.1 c3.2
  subst e_
  have p3 := eq_true c3.1
  have q3 := eq_true c3.2
  clear c3
  by_cases c4 : (rd_T45 cs i).f2 < 0
  · rw [if_pos c4] at h
    obtain ⟨rfl, rfl⟩ : none = r ∧ i = j := by simpa using h
    clear h
    have b4 : decide ((rd_T45 cs i).f2 < 0) = true := decide_eq_true c4
    clear c4
    go_enter Try.func46, Try.ntmps46
    go_wp2_with (first | ((with_reducible refine gate_dst (N := 8) rfl ?_); refine box_event ?allocC_hg (N := 8) ?allocC_hd (cs := #[.int .i64 0, .string (⟨#[]⟩ : ByteArray), .int .i64 0]) (t := 45) ?allocC_hr ?_; (case allocC_hd => rfl); (case allocC_hg => rfl); (case allocC_hr => first | (go_simp; done) | (go_simp; rfl)); intro gb hg_ w2 hb_ hw_; have BZ := Aside0.mk hb_; have BL := Aside0.mk hw_; have BG := Aside0.mk hg_; clear hb_ hw_ hg_; refine store_box (t := 45) (p := 8) (v := .tmp 24) (g := gb) (off := 0) ?storeC_hg ?storeC_ho ?storeC_hN (cs' := #[.int .i64 (rd_T45 cs i).f0, .string (rd_T45 cs i).f1, .int .i64 (rd_T45 cs i).f2]) (u := .agg #[.int .i64 (rd_T45 cs i).f0, .string (rd_T45 cs i).f1, .int .i64 (rd_T45 cs i).f2]) ?storeC_ha ?storeC_hx ?storeC_ht ?storeC_h1 BZ.out ?storeC_hf ?storeC_hc ?_; (case storeC_hg => rfl); (case storeC_ho => rfl); (case storeC_hN => rfl); (case storeC_ha => rfl); (case storeC_hx => first | rfl | (go_simp; done) | (go_simp; rfl)); (case storeC_ht => kernel_rfl); (case storeC_h1 => intro q_ hq_; simp [Value.cells] at hq_; rcases hq_ with rfl | rfl | rfl <;> rfl); (case storeC_hf => exact Nat.le_refl _); (case storeC_hc => rfl); intro w3 hb_ hp_; have HS := Aside0.mk (CtSt.mk1 HE.out HI.out BG.out BL.out hb_ hp_); clear hb_ hp_ BZ BL BG HI HE; (try clear ki_); (try clear kc_); (try clear kt_); (try clear kb0_ kb1_ kb2_); (try clear kx0_ kx1_ kx2_); have ki_ : w3.cell? ⟨gi, 0, none⟩ = some (.int .i64 i) := (blk_cell HS.out.hi 0).trans rfl; have kc_ : w3.cell? ⟨gc, 0, none⟩ = some (.slice (some ad) cs.length c0) := (blk_cell HS.out.env.2.2.2.1 0).trans rfl; have kt_ : w3.cell? ⟨gt, 0, none⟩ = some (.func (.func 46) #[] #[.pointer (some ⟨gi, 0, none⟩), .pointer (some ⟨gc, 0, none⟩), .pointer (some ⟨gt, 0, none⟩)]) := (blk_cell HS.out.env.2.2.2.2.1 0).trans rfl; have kb0_ : w3.cell? ⟨gb, 0, none⟩ = some (.int .i64 (rd_T45 cs i).f0) := (blk_cell HS.out.hc 0).trans rfl; have kb1_ : w3.cell? ⟨gb, 1, none⟩ = some (.string (rd_T45 cs i).f1) := (blk_cell HS.out.hc 1).trans rfl; have kb2_ : w3.cell? ⟨gb, 2, none⟩ = some (.int .i64 (rd_T45 cs i).f2) := (blk_cell HS.out.hc 2).trans rfl))
    go_ret
    exact HS.out.fin rfl
  rw [if_neg c4] at h
  have b4 : decide ((rd_T45 cs i).f2 < 0) = false := decide_eq_false c4
  clear c4
  by_cases c5 : wrap64 ((wrap64 (e - i)) - 1) < (rd_T45 cs i).f2
  · rw [if_pos c5] at h
    obtain ⟨rfl, rfl⟩ : none = r ∧ i = j := by simpa using h
    clear h
    have b5 : decide (wrap64 ((wrap64 (e - i)) - 1) < (rd_T45 cs i).f2) = true := decide_eq_true c5
    clear c5
    go_enter Try.func46, Try.ntmps46
    go_wp2_with (first | ((with_reducible refine gate_dst (N := 8) rfl ?_); refine box_event ?allocC_hg (N := 8) ?allocC_hd (cs := #[.int .i64 0, .string (⟨#[]⟩ : ByteArray), .int .i64 0]) (t := 45) ?allocC_hr ?_; (case allocC_hd => rfl); (case allocC_hg => rfl); (case allocC_hr => first | (go_simp; done) | (go_simp; rfl)); intro gb hg_ w2 hb_ hw_; have BZ := Aside0.mk hb_; have BL := Aside0.mk hw_; have BG := Aside0.mk hg_; clear hb_ hw_ hg_; refine store_box (t := 45) (p := 8) (v := .tmp 24) (g := gb) (off := 0) ?storeC_hg ?storeC_ho ?storeC_hN (cs' := #[.int .i64 (rd_T45 cs i).f0, .string (rd_T45 cs i).f1, .int .i64 (rd_T45 cs i).f2]) (u := .agg #[.int .i64 (rd_T45 cs i).f0, .string (rd_T45 cs i).f1, .int .i64 (rd_T45 cs i).f2]) ?storeC_ha ?storeC_hx ?storeC_ht ?storeC_h1 BZ.out ?storeC_hf ?storeC_hc ?_; (case storeC_hg => rfl); (case storeC_ho => rfl); (case storeC_hN => rfl); (case storeC_ha => rfl); (case storeC_hx => first | rfl | (go_simp; done) | (go_simp; rfl)); (case storeC_ht => kernel_rfl); (case storeC_h1 => intro q_ hq_; simp [Value.cells] at hq_; rcases hq_ with rfl | rfl | rfl <;> rfl); (case storeC_hf => exact Nat.le_refl _); (case storeC_hc => rfl); intro w3 hb_ hp_; have HS := Aside0.mk (CtSt.mk1 HE.out HI.out BG.out BL.out hb_ hp_); clear hb_ hp_ BZ BL BG HI HE; (try clear ki_); (try clear kc_); (try clear kt_); (try clear kb0_ kb1_ kb2_); (try clear kx0_ kx1_ kx2_); have ki_ : w3.cell? ⟨gi, 0, none⟩ = some (.int .i64 i) := (blk_cell HS.out.hi 0).trans rfl; have kc_ : w3.cell? ⟨gc, 0, none⟩ = some (.slice (some ad) cs.length c0) := (blk_cell HS.out.env.2.2.2.1 0).trans rfl; have kt_ : w3.cell? ⟨gt, 0, none⟩ = some (.func (.func 46) #[] #[.pointer (some ⟨gi, 0, none⟩), .pointer (some ⟨gc, 0, none⟩), .pointer (some ⟨gt, 0, none⟩)]) := (blk_cell HS.out.env.2.2.2.2.1 0).trans rfl; have kb0_ : w3.cell? ⟨gb, 0, none⟩ = some (.int .i64 (rd_T45 cs i).f0) := (blk_cell HS.out.hc 0).trans rfl; have kb1_ : w3.cell? ⟨gb, 1, none⟩ = some (.string (rd_T45 cs i).f1) := (blk_cell HS.out.hc 1).trans rfl; have kb2_ : w3.cell? ⟨gb, 2, none⟩ = some (.int .i64 (rd_T45 cs i).f2) := (blk_cell HS.out.hc 2).trans rfl))
    go_ret
    exact HS.out.fin rfl
  rw [if_neg c5] at h
  have b5 : decide (wrap64 ((wrap64 (e - i)) - 1) < (rd_T45 cs i).f2) = false := decide_eq_false c5
  clear c5
  obtain ⟨⟨ok, j1⟩, h1, h2⟩ := Option.bind_eq_some_iff.mp h
  clear h
  have H1 := Aside0.mk h1
  have H2 := Aside0.mk h2
  clear h1 h2
  go_enter Try.func46, Try.ntmps46
  go_wp2_with (first | ((with_reducible refine gate_dst (N := 8) rfl ?_); refine box_event ?allocC_hg (N := 8) ?allocC_hd (cs := #[.int .i64 0, .string (⟨#[]⟩ : ByteArray), .int .i64 0]) (t := 45) ?allocC_hr ?_; (case allocC_hd => rfl); (case allocC_hg => rfl); (case allocC_hr => first | (go_simp; done) | (go_simp; rfl)); intro gb hg_ w2 hb_ hw_; have BZ := Aside0.mk hb_; have BL := Aside0.mk hw_; have BG := Aside0.mk hg_; clear hb_ hw_ hg_; refine store_box (t := 45) (p := 8) (v := .tmp 24) (g := gb) (off := 0) ?storeC_hg ?storeC_ho ?storeC_hN (cs' := #[.int .i64 (rd_T45 cs i).f0, .string (rd_T45 cs i).f1, .int .i64 (rd_T45 cs i).f2]) (u := .agg #[.int .i64 (rd_T45 cs i).f0, .string (rd_T45 cs i).f1, .int .i64 (rd_T45 cs i).f2]) ?storeC_ha ?storeC_hx ?storeC_ht ?storeC_h1 BZ.out ?storeC_hf ?storeC_hc ?_; (case storeC_hg => rfl); (case storeC_ho => rfl); (case storeC_hN => rfl); (case storeC_ha => rfl); (case storeC_hx => first | rfl | (go_simp; done) | (go_simp; rfl)); (case storeC_ht => kernel_rfl); (case storeC_h1 => intro q_ hq_; simp [Value.cells] at hq_; rcases hq_ with rfl | rfl | rfl <;> rfl); (case storeC_hf => exact Nat.le_refl _); (case storeC_hc => rfl); intro w3 hb_ hp_; have HS := Aside0.mk (CtSt.mk1 HE.out HI.out BG.out BL.out hb_ hp_); clear hb_ hp_ BZ BL BG HI HE; (try clear ki_); (try clear kc_); (try clear kt_); (try clear kb0_ kb1_ kb2_); (try clear kx0_ kx1_ kx2_); have ki_ : w3.cell? ⟨gi, 0, none⟩ = some (.int .i64 i) := (blk_cell HS.out.hi 0).trans rfl; have kc_ : w3.cell? ⟨gc, 0, none⟩ = some (.slice (some ad) cs.length c0) := (blk_cell HS.out.env.2.2.2.1 0).trans rfl; have kt_ : w3.cell? ⟨gt, 0, none⟩ = some (.func (.func 46) #[] #[.pointer (some ⟨gi, 0, none⟩), .pointer (some ⟨gc, 0, none⟩), .pointer (some ⟨gt, 0, none⟩)]) := (blk_cell HS.out.env.2.2.2.2.1 0).trans rfl; have kb0_ : w3.cell? ⟨gb, 0, none⟩ = some (.int .i64 (rd_T45 cs i).f0) := (blk_cell HS.out.hc 0).trans rfl; have kb1_ : w3.cell? ⟨gb, 1, none⟩ = some (.string (rd_T45 cs i).f1) := (blk_cell HS.out.hc 1).trans rfl; have kb2_ : w3.cell? ⟨gb, 2, none⟩ = some (.int .i64 (rd_T45 cs i).f2) := (blk_cell HS.out.hc 2).trans rfl) | ((with_reducible refine gate_dst (N := 43) rfl ?_); refine Kd.event_run ?si_g (v := .int .i64 (wrap64 (i + 1))) (w1 := w3) ?si_r ?_; (case si_g => rfl); (case si_r => first | (go_simp; done) | (go_simp; rfl) | (go_simp; simp only [i64_w]; done)); refine store_box (t := 3) (p := 2) (v := .tmp 43) (g := gi) (off := 0) ?storeI_hg ?storeI_ho ?storeI_hN (cs' := #[.int .i64 (wrap64 (i + 1))]) (u := .int .i64 (wrap64 (i + 1))) ?storeI_ha ?storeI_hx ?storeI_ht ?storeI_h1 HS.out.hi ?storeI_hf ?storeI_hc ?_; (case storeI_hg => rfl); (case storeI_ho => rfl); (case storeI_hN => rfl); (case storeI_ha => rfl); (case storeI_hx => first | rfl | (go_simp; done) | (go_simp; rfl)); (case storeI_ht => kernel_rfl); (case storeI_h1 => intro q_ hq_; simp [Value.cells] at hq_; subst hq_; rfl); (case storeI_hf => exact Nat.le_refl _); (case storeI_hc => rfl); intro w4 hb_ hp_; have HS2 := Aside0.mk (HS.out.setI hb_ hp_); clear hb_ hp_ HS; have HS := HS2; clear HS2; (try clear ki_); (try clear kc_); (try clear kt_); (try clear kb0_ kb1_ kb2_); (try clear kx0_ kx1_ kx2_); have ki_ : w4.cell? ⟨gi, 0, none⟩ = some (.int .i64 (wrap64 (i + 1))) := (blk_cell HS.out.hi 0).trans rfl; have kc_ : w4.cell? ⟨gc, 0, none⟩ = some (.slice (some ad) cs.length c0) := (blk_cell HS.out.env.2.2.2.1 0).trans rfl; have kt_ : w4.cell? ⟨gt, 0, none⟩ = some (.func (.func 46) #[] #[.pointer (some ⟨gi, 0, none⟩), .pointer (some ⟨gc, 0, none⟩), .pointer (some ⟨gt, 0, none⟩)]) := (blk_cell HS.out.env.2.2.2.2.1 0).trans rfl; have kb0_ : w4.cell? ⟨gb, 0, none⟩ = some (.int .i64 (rd_T45 cs i).f0) := (blk_cell HS.out.hc 0).trans rfl; have kb1_ : w4.cell? ⟨gb, 1, none⟩ = some (.string (rd_T45 cs i).f1) := (blk_cell HS.out.hc 1).trans rfl; have kb2_ : w4.cell? ⟨gb, 2, none⟩ = some (.int .i64 (rd_T45 cs i).f2) := (blk_cell HS.out.hc 2).trans rfl) | ((with_reducible refine gate_dst (N := 49) rfl ?_); refine box_event ?boxX_hg (N := 49) ?boxX_hd (cs := #[.int .i64 (rd_T45 cs i).f0, .string (rd_T45 cs i).f1, .slice none 0 0]) (t := 71) ?boxX_hr ?_; (case boxX_hd => rfl); (case boxX_hg => rfl); (case boxX_hr => first | (go_simp; done) | (go_simp; rfl)); intro gx hg_ w5 hb_ hw_; have HS2 := Aside0.mk (HS.out.box hg_ hb_ hw_); clear hb_ hw_ hg_ HS; have HS := HS2; clear HS2; (try clear ki_); (try clear kc_); (try clear kt_); (try clear kb0_ kb1_ kb2_); (try clear kx0_ kx1_ kx2_)))
  go_loopg [11] k (fun kq v11 W' => ∃ (i' : Int) (v : Value) (ks : List CT), Aside0 (ctKids (fun j => ctTake k cs (wrap64 (d + 1)) (wrap64 ((wrap64 (i + 1)) + (rd_T45 cs i).f2)) j) kq (wrap64 ((wrap64 (i + 1)) + (rd_T45 cs i).f2)) i' ks = some (ok, j1)) ∧ Aside0 (kq ≤ k) ∧ Aside0 (CtStX gi gc gt (some ad) c0 cs w W' i' gb gx (rd_T45 cs i) v ks))
  case atStart => exact ⟨_, _, _, H1, ⟨Nat.le_refl _⟩, HS⟩
  case round =>
    clear H1 HS
    (try clear hx0 hx1 hx2 p3 q3 b1 b2 b4 b5)
    obtain ⟨i', v, ks, HL, HKq, HS⟩ := hrel
    cases gk with
    | zero => exact absurd HL.out (by simp [ctKids])
    | succ kq =>
      have h := HL.out
      clear HL
      unfold ctKids at h
      have ki_ : wr.cell? ⟨gi, 0, none⟩ = some (.int .i64 i') := (blk_cell HS.out.hi 0).trans rfl
      have kc_ : wr.cell? ⟨gc, 0, none⟩ = some (.slice (some ad) cs.length c0) := (blk_cell HS.out.env.2.2.2.1 0).trans rfl
      have kt_ : wr.cell? ⟨gt, 0, none⟩ = some (.func (.func 46) #[] #[.pointer (some ⟨gi, 0, none⟩), .pointer (some ⟨gc, 0, none⟩), .pointer (some ⟨gt, 0, none⟩)]) := (blk_cell HS.out.env.2.2.2.2.1 0).trans rfl
      have kb0_ : wr.cell? ⟨gb, 0, none⟩ = some (.int .i64 (rd_T45 cs i).f0) := (blk_cell HS.out.hc 0).trans rfl
      have kb1_ : wr.cell? ⟨gb, 1, none⟩ = some (.string (rd_T45 cs i).f1) := (blk_cell HS.out.hc 1).trans rfl
      have kb2_ : wr.cell? ⟨gb, 2, none⟩ = some (.int .i64 (rd_T45 cs i).f2) := (blk_cell HS.out.hc 2).trans rfl
      have kx0_ : wr.cell? ⟨gx, 0, none⟩ = some (.int .i64 (rd_T45 cs i).f0) := (blk_cell HS.out.hx 0).trans rfl
      have kx1_ : wr.cell? ⟨gx, 1, none⟩ = some (.string (rd_T45 cs i).f1) := (blk_cell HS.out.hx 1).trans rfl
      have kx2_ : wr.cell? ⟨gx, 2, none⟩ = some (v) := (blk_cell HS.out.hx 2).trans rfl
      by_cases c6 : i' < wrap64 ((wrap64 (i + 1)) + (rd_T45 cs i).f2)
      · rw [if_pos c6] at h
        have b6 : decide (i' < wrap64 ((wrap64 (i + 1)) + (rd_T45 cs i).f2)) = true := decide_eq_true c6
        clear c6
        by_cases c7 : ks.length < 1000000
        case neg => rw [if_neg c7] at h; simp at h
        rw [if_pos c7] at h
        have HN := Aside0.mk c7
        clear c7
        obtain ⟨⟨t, j2⟩, e1, h⟩ := Option.bind_eq_some_iff.mp h
        have E1 := Aside0.mk e1
        clear e1
        cases t with
        | none =>
          obtain ⟨rfl, rfl⟩ : none = ok ∧ j2 = j1 := by simpa using h
          clear h
          have h2 := H2.out
          clear H2
          obtain ⟨rfl, rfl⟩ : none = r ∧ j2 = j := by simpa [ctEnd] using h2
          clear h2
          go_wp2_with (first | ((go_at_call 46); (with_reducible refine (ih gi gc gt (some ad) c0 cs _ _ i' none j2 _ HS.out.env HS.out.hi E1.out).mono ?_); rintro e_ w6 ⟨v6, rfl, hres_, hi6_, hk6_⟩; obtain rfl : v6 = .pointer none := hres_; have HS2 := Aside0.mk (HS.out.call hi6_ hk6_); clear hi6_ hk6_ HS; have HS := HS2; clear HS2; (try clear ki_); (try clear kc_); (try clear kt_); (try clear kb0_ kb1_ kb2_); (try clear kx0_ kx1_ kx2_)))
          go_ret
          exact HS.out.fin rfl
        | some x =>
          have H := Aside0.mk (show ctKids (fun j => ctTake k cs (wrap64 (d + 1)) (wrap64 ((wrap64 (i + 1)) + (rd_T45 cs i).f2)) j) kq (wrap64 ((wrap64 (i + 1)) + (rd_T45 cs i).f2)) j2 (ks ++ [x]) = some (ok, j1) from h)
          clear h
          go_wp2_with (first | ((go_at_call 46); (with_reducible refine (ih gi gc gt (some ad) c0 cs _ _ i' (some x) j2 _ HS.out.env HS.out.hi E1.out).mono ?_); rintro e_ w6 ⟨v6, rfl, hres_, hi6_, hk6_⟩; have HF := Aside0.mk (Kd.FK_mono hres_ (fun k hk => Nat.le_trans HS.out.kp.2.1 hk)); have HFl := Aside0.mk hres_; have HOK := Aside0.mk (fun k_ (hk_ : wr.heap.size ≤ k_) => (⟨⟨Nat.le_trans HS.out.kp.2.1 hk_, fun e_ => absurd (blk_lt HS.out.hx) (by omega), fun e_ => absurd (blk_lt HS.out.hc) (by omega)⟩, fun e_ => absurd (Kd.N_lt HS.out.hn k_ e_.symm) (by omega)⟩ : (w.heap.size ≤ k_ ∧ k_ ≠ gx ∧ k_ ≠ gb) ∧ some k_ ≠ v.ownBlock)); have HS2 := Aside0.mk (HS.out.call hi6_ hk6_); obtain ⟨b6_, A6_, c6_, e6_, _⟩ := Kd.ct_FK hres_; obtain rfl : v6 = .pointer (some ⟨b6_, 0, none⟩) := (by injection e6_); clear hi6_ hk6_ HS hres_ e6_; have HS := HS2; clear HS2; (try clear ki_); (try clear kc_); (try clear kt_); (try clear kb0_ kb1_ kb2_); (try clear kx0_ kx1_ kx2_); have ki_ : w6.cell? ⟨gi, 0, none⟩ = some (.int .i64 j2) := (blk_cell HS.out.hi 0).trans rfl; have kc_ : w6.cell? ⟨gc, 0, none⟩ = some (.slice (some ad) cs.length c0) := (blk_cell HS.out.env.2.2.2.1 0).trans rfl; have kt_ : w6.cell? ⟨gt, 0, none⟩ = some (.func (.func 46) #[] #[.pointer (some ⟨gi, 0, none⟩), .pointer (some ⟨gc, 0, none⟩), .pointer (some ⟨gt, 0, none⟩)]) := (blk_cell HS.out.env.2.2.2.2.1 0).trans rfl; have kb0_ : w6.cell? ⟨gb, 0, none⟩ = some (.int .i64 (rd_T45 cs i).f0) := (blk_cell HS.out.hc 0).trans rfl; have kb1_ : w6.cell? ⟨gb, 1, none⟩ = some (.string (rd_T45 cs i).f1) := (blk_cell HS.out.hc 1).trans rfl; have kb2_ : w6.cell? ⟨gb, 2, none⟩ = some (.int .i64 (rd_T45 cs i).f2) := (blk_cell HS.out.hc 2).trans rfl; have kx0_ : w6.cell? ⟨gx, 0, none⟩ = some (.int .i64 (rd_T45 cs i).f0) := (blk_cell HS.out.hx 0).trans rfl; have kx1_ : w6.cell? ⟨gx, 1, none⟩ = some (.string (rd_T45 cs i).f1) := (blk_cell HS.out.hx 1).trans rfl; have kx2_ : w6.cell? ⟨gx, 2, none⟩ = some (v) := (blk_cell HS.out.hx 2).trans rfl) | ((with_reducible refine gate_builtin (b := .append) (xs := #[.tmp 64, .tmp 66]) (ts := #[69, 69]) rfl ?_); at_builtin; refine Kd.N_append (Kd.ct 71 47) (w0 := w6) w.heap.size rfl (.tmp 64) (.tmp 66) 69 47 (.pointer none) 8 rfl Try.underlying69 ?ap_i rfl (by decide) (by decide) v ks x [.pointer (some ⟨b6_, 0, none⟩)] (fun k => w.heap.size ≤ k ∧ k ≠ gx ∧ k ≠ gb) _ ?ap_s ?ap_x HFl.out ?ap_k ?ap_f HS.out.hn (Below.refl _ _) ?ap_b ?ap_l ?_; (case ap_i => first | rfl | kernel_rfl); (case ap_s => rfl); (case ap_x => rfl); (case ap_k => exact HOK.out); (case ap_f => intro k_ hk_; have h1_ := blk_lt HS.out.hx; have h2_ := blk_lt HS.out.hc; have h3_ := HS.out.kp.2.1; omega); (case ap_b => exact HS.out.kp.2.1); (case ap_l => have h1_ := HN.out; omega); intro v7 w7 hn7_ hb7_ hg7_ hat7_; obtain ⟨A7_, c7_, ev7_⟩ := Kd.N_slice hn7_; subst ev7_; have hx7_ := blk_grown HS.out.hx hg7_ (fun e_ => (HS.out.hn.1 gx e_.symm).2.1 rfl); have HS2 := Aside0.mk (HS.out.app hn7_ hg7_); clear hn7_ hb7_ hg7_ hat7_ HS; have HS := HS2; clear HS2; (try clear ki_); (try clear kc_); (try clear kt_); (try clear kb0_ kb1_ kb2_); (try clear kx0_ kx1_ kx2_); have kx2_ : w7.cell? ⟨gx, 2, none⟩ = some v := (blk_cell hx7_ 2).trans rfl; have kfz_ : w7.frozen? ⟨gx, 2, none⟩ = false := blk_frozen hx7_ 2; clear hx7_))
          go_roundg kq
          case measure => have := HKq.out; omega
          case rel => exact ⟨_, _, _, H, ⟨by have := HKq.out; omega⟩, ⟨by have hs_ := HS.out; rw [List.length_append, List.length_singleton] at hs_; exact hs_⟩⟩
      · rw [if_neg c6] at h
        have b6 : decide (i' < wrap64 ((wrap64 (i + 1)) + (rd_T45 cs i).f2)) = false := decide_eq_false c6
        clear c6
        obtain ⟨rfl, rfl⟩ : some ks = ok ∧ i' = j1 := by simpa using h
        clear h
        have h2 := H2.out
        clear H2
        simp only [ctEnd] at h2
        obtain ⟨bb, h3, h2b⟩ := Option.bind_eq_some_iff.mp h2
        clear h2
        obtain ⟨hr, rfl⟩ : (if bb = true then some (CT.node (rd_T45 cs i).f0 (rd_T45 cs i).f1 ks) else none) = r ∧ i' = j := by simpa using h2b
        clear h2b
        have HR := Aside0.mk hr
        clear hr
        obtain ⟨Av, cv, ev⟩ := Kd.N_slice HS.out.hn
        subst ev
        unfold ctOk at h3
        obtain ⟨c, hc⟩ : ∃ c, c = rd_T45 cs i := ⟨_, rfl⟩
        rw [← hc] at h3 HR HS kb0_ kb1_ kb2_ kx0_ kx1_
        clear hc
        by_cases k1 : c.f0 = 1
        · rw [if_pos k1] at h3
          have k1e : (c.f0 == 1) = true := beq_iff_eq.mpr k1
          have k1d : decide (c.f0 = 1) = true := decide_eq_true k1
          have k1n : (c.f0 != 1) = false := bne_eq_false_iff_eq.mpr k1
          by_cases h0 : (ks.length : Int) = 0
          · rw [if_pos h0] at h3
            have h0e : ((ks.length : Int) == 0) = true := beq_iff_eq.mpr h0
            have h0d : decide ((ks.length : Int) = 0) = true := decide_eq_true h0
            have h0n : ((ks.length : Int) != 0) = false := bne_eq_false_iff_eq.mpr h0
            obtain ⟨t, e2, h3b⟩ := Option.bind_eq_some_iff.mp h3; clear h3; have h3 := h3b; clear h3b
            have E2 := Aside0.mk e2
            clear e2
            cases t with
            | false =>
              obtain rfl : false = bb := by simpa using h3
              clear h3
              go_wp2_with (first | ((go_at_call 47); (with_reducible refine (impl_NameOk.calls k _ false _ E2.out).mono ?_); rintro e_ w8 ⟨rfl, hd_⟩; have HS2 := Aside0.mk (HS.out.drawn hd_); clear hd_ HS; have HS := HS2; clear HS2; (try clear ki_); (try clear kc_); (try clear kt_); (try clear kb0_ kb1_ kb2_); (try clear kx0_ kx1_ kx2_); have ki_ : w8.cell? ⟨gi, 0, none⟩ = some (.int .i64 i') := (blk_cell HS.out.hi 0).trans rfl; have kc_ : w8.cell? ⟨gc, 0, none⟩ = some (.slice (some ad) cs.length c0) := (blk_cell HS.out.env.2.2.2.1 0).trans rfl; have kt_ : w8.cell? ⟨gt, 0, none⟩ = some (.func (.func 46) #[] #[.pointer (some ⟨gi, 0, none⟩), .pointer (some ⟨gc, 0, none⟩), .pointer (some ⟨gt, 0, none⟩)]) := (blk_cell HS.out.env.2.2.2.2.1 0).trans rfl; have kb0_ : w8.cell? ⟨gb, 0, none⟩ = some (.int .i64 c.f0) := (blk_cell HS.out.hc 0).trans rfl; have kb1_ : w8.cell? ⟨gb, 1, none⟩ = some (.string c.f1) := (blk_cell HS.out.hc 1).trans rfl; have kb2_ : w8.cell? ⟨gb, 2, none⟩ = some (.int .i64 c.f2) := (blk_cell HS.out.hc 2).trans rfl; have kx0_ : w8.cell? ⟨gx, 0, none⟩ = some (.int .i64 c.f0) := (blk_cell HS.out.hx 0).trans rfl; have kx1_ : w8.cell? ⟨gx, 1, none⟩ = some (.string c.f1) := (blk_cell HS.out.hx 1).trans rfl; have kx2_ : w8.cell? ⟨gx, 2, none⟩ = some (.slice Av ks.length cv) := (blk_cell HS.out.hx 2).trans rfl))
              go_ret
              obtain rfl : none = r := by simpa using HR.out
              exact HS.out.fin rfl
            | true =>
              cases hTe : (c.f1.toList == ([116, 114, 117, 101] : List UInt8))
              case true =>
                have hTn : (c.f1.toList != ([116, 114, 117, 101] : List UInt8)) = false := by rw [bne, hTe]; rfl
                obtain rfl : false = bb := by simpa [hTn] using h3
                clear h3
                go_wp2_with (first | ((go_at_call 47); (with_reducible refine (impl_NameOk.calls k _ true _ E2.out).mono ?_); rintro e_ w8 ⟨rfl, hd_⟩; have HS2 := Aside0.mk (HS.out.drawn hd_); clear hd_ HS; have HS := HS2; clear HS2; (try clear ki_); (try clear kc_); (try clear kt_); (try clear kb0_ kb1_ kb2_); (try clear kx0_ kx1_ kx2_); have ki_ : w8.cell? ⟨gi, 0, none⟩ = some (.int .i64 i') := (blk_cell HS.out.hi 0).trans rfl; have kc_ : w8.cell? ⟨gc, 0, none⟩ = some (.slice (some ad) cs.length c0) := (blk_cell HS.out.env.2.2.2.1 0).trans rfl; have kt_ : w8.cell? ⟨gt, 0, none⟩ = some (.func (.func 46) #[] #[.pointer (some ⟨gi, 0, none⟩), .pointer (some ⟨gc, 0, none⟩), .pointer (some ⟨gt, 0, none⟩)]) := (blk_cell HS.out.env.2.2.2.2.1 0).trans rfl; have kb0_ : w8.cell? ⟨gb, 0, none⟩ = some (.int .i64 c.f0) := (blk_cell HS.out.hc 0).trans rfl; have kb1_ : w8.cell? ⟨gb, 1, none⟩ = some (.string c.f1) := (blk_cell HS.out.hc 1).trans rfl; have kb2_ : w8.cell? ⟨gb, 2, none⟩ = some (.int .i64 c.f2) := (blk_cell HS.out.hc 2).trans rfl; have kx0_ : w8.cell? ⟨gx, 0, none⟩ = some (.int .i64 c.f0) := (blk_cell HS.out.hx 0).trans rfl; have kx1_ : w8.cell? ⟨gx, 1, none⟩ = some (.string c.f1) := (blk_cell HS.out.hx 1).trans rfl; have kx2_ : w8.cell? ⟨gx, 2, none⟩ = some (.slice Av ks.length cv) := (blk_cell HS.out.hx 2).trans rfl))
                go_ret
                obtain rfl : none = r := by simpa using HR.out
                exact HS.out.fin rfl
              have hTn : (c.f1.toList != ([116, 114, 117, 101] : List UInt8)) = true := by rw [bne, hTe]; rfl
              cases hFe : (c.f1.toList == ([102, 97, 108, 115, 101] : List UInt8))
              case true =>
                have hFn : (c.f1.toList != ([102, 97, 108, 115, 101] : List UInt8)) = false := by rw [bne, hFe]; rfl
                obtain rfl : false = bb := by simpa [hTn, hFn] using h3
                clear h3
                go_wp2_with (first | ((go_at_call 47); (with_reducible refine (impl_NameOk.calls k _ true _ E2.out).mono ?_); rintro e_ w8 ⟨rfl, hd_⟩; have HS2 := Aside0.mk (HS.out.drawn hd_); clear hd_ HS; have HS := HS2; clear HS2; (try clear ki_); (try clear kc_); (try clear kt_); (try clear kb0_ kb1_ kb2_); (try clear kx0_ kx1_ kx2_); have ki_ : w8.cell? ⟨gi, 0, none⟩ = some (.int .i64 i') := (blk_cell HS.out.hi 0).trans rfl; have kc_ : w8.cell? ⟨gc, 0, none⟩ = some (.slice (some ad) cs.length c0) := (blk_cell HS.out.env.2.2.2.1 0).trans rfl; have kt_ : w8.cell? ⟨gt, 0, none⟩ = some (.func (.func 46) #[] #[.pointer (some ⟨gi, 0, none⟩), .pointer (some ⟨gc, 0, none⟩), .pointer (some ⟨gt, 0, none⟩)]) := (blk_cell HS.out.env.2.2.2.2.1 0).trans rfl; have kb0_ : w8.cell? ⟨gb, 0, none⟩ = some (.int .i64 c.f0) := (blk_cell HS.out.hc 0).trans rfl; have kb1_ : w8.cell? ⟨gb, 1, none⟩ = some (.string c.f1) := (blk_cell HS.out.hc 1).trans rfl; have kb2_ : w8.cell? ⟨gb, 2, none⟩ = some (.int .i64 c.f2) := (blk_cell HS.out.hc 2).trans rfl; have kx0_ : w8.cell? ⟨gx, 0, none⟩ = some (.int .i64 c.f0) := (blk_cell HS.out.hx 0).trans rfl; have kx1_ : w8.cell? ⟨gx, 1, none⟩ = some (.string c.f1) := (blk_cell HS.out.hx 1).trans rfl; have kx2_ : w8.cell? ⟨gx, 2, none⟩ = some (.slice Av ks.length cv) := (blk_cell HS.out.hx 2).trans rfl))
                go_ret
                obtain rfl : none = r := by simpa using HR.out
                exact HS.out.fin rfl
              have hFn : (c.f1.toList != ([102, 97, 108, 115, 101] : List UInt8)) = true := by rw [bne, hFe]; rfl
              obtain rfl : true = bb := by simpa [hTn, hFn] using h3
              clear h3
              go_wp2_with (first | ((go_at_call 47); (with_reducible refine (impl_NameOk.calls k _ true _ E2.out).mono ?_); rintro e_ w8 ⟨rfl, hd_⟩; have HS2 := Aside0.mk (HS.out.drawn hd_); clear hd_ HS; have HS := HS2; clear HS2; (try clear ki_); (try clear kc_); (try clear kt_); (try clear kb0_ kb1_ kb2_); (try clear kx0_ kx1_ kx2_); have ki_ : w8.cell? ⟨gi, 0, none⟩ = some (.int .i64 i') := (blk_cell HS.out.hi 0).trans rfl; have kc_ : w8.cell? ⟨gc, 0, none⟩ = some (.slice (some ad) cs.length c0) := (blk_cell HS.out.env.2.2.2.1 0).trans rfl; have kt_ : w8.cell? ⟨gt, 0, none⟩ = some (.func (.func 46) #[] #[.pointer (some ⟨gi, 0, none⟩), .pointer (some ⟨gc, 0, none⟩), .pointer (some ⟨gt, 0, none⟩)]) := (blk_cell HS.out.env.2.2.2.2.1 0).trans rfl; have kb0_ : w8.cell? ⟨gb, 0, none⟩ = some (.int .i64 c.f0) := (blk_cell HS.out.hc 0).trans rfl; have kb1_ : w8.cell? ⟨gb, 1, none⟩ = some (.string c.f1) := (blk_cell HS.out.hc 1).trans rfl; have kb2_ : w8.cell? ⟨gb, 2, none⟩ = some (.int .i64 c.f2) := (blk_cell HS.out.hc 2).trans rfl; have kx0_ : w8.cell? ⟨gx, 0, none⟩ = some (.int .i64 c.f0) := (blk_cell HS.out.hx 0).trans rfl; have kx1_ : w8.cell? ⟨gx, 1, none⟩ = some (.string c.f1) := (blk_cell HS.out.hx 1).trans rfl; have kx2_ : w8.cell? ⟨gx, 2, none⟩ = some (.slice Av ks.length cv) := (blk_cell HS.out.hx 2).trans rfl))
              go_ret
              obtain rfl : some (CT.node c.f0 c.f1 ks) = r := by simpa using HR.out
              exact HS.out.node rfl
          · rw [if_neg h0] at h3
            have h0e : ((ks.length : Int) == 0) = false := beq_eq_false_iff_ne.mpr h0
            have h0d : decide ((ks.length : Int) = 0) = false := decide_eq_false h0
            have h0n : ((ks.length : Int) != 0) = true := bne_iff_ne.mpr h0
            obtain rfl : false = bb := by simpa using h3
            clear h3
            go_wp2
            go_ret
            obtain rfl : none = r := by simpa using HR.out
            exact HS.out.fin rfl
        · rw [if_neg k1] at h3
          have k1e : (c.f0 == 1) = false := beq_eq_false_iff_ne.mpr k1
          have k1d : decide (c.f0 = 1) = false := decide_eq_false k1
          have k1n : (c.f0 != 1) = true := bne_iff_ne.mpr k1
          by_cases k2 : c.f0 = 2
          · rw [if_pos k2] at h3
            have k2e : (c.f0 == 2) = true := beq_iff_eq.mpr k2
            have k2d : decide (c.f0 = 2) = true := decide_eq_true k2
            have k2n : (c.f0 != 2) = false := bne_eq_false_iff_eq.mpr k2
            cases hq : ((ks.length : Int) == 0)
            · obtain rfl : false = bb := by simpa [hq] using h3
              clear h3
              go_wp2
              go_ret
              obtain rfl : none = r := by simpa using HR.out
              exact HS.out.fin rfl
            · cases he : (c.f1.toList == ([] : List UInt8))
              · obtain rfl : false = bb := by simpa [hq, he] using h3
                clear h3
                have hen : (c.f1.toList != ([] : List UInt8)) = true := by simp [bne, he]
                go_wp2
                go_ret
                obtain rfl : none = r := by simpa using HR.out
                exact HS.out.fin rfl
              · obtain rfl : true = bb := by simpa [hq, he] using h3
                clear h3
                have hen : (c.f1.toList != ([] : List UInt8)) = false := by simp [bne, he]
                go_wp2
                go_ret
                obtain rfl : some (CT.node c.f0 c.f1 ks) = r := by simpa using HR.out
                exact HS.out.node rfl
          · rw [if_neg k2] at h3
            have k2e : (c.f0 == 2) = false := beq_eq_false_iff_ne.mpr k2
            have k2d : decide (c.f0 = 2) = false := decide_eq_false k2
            have k2n : (c.f0 != 2) = true := bne_iff_ne.mpr k2
            by_cases k3 : c.f0 = 3
            · rw [if_pos k3] at h3
              have k3e : (c.f0 == 3) = true := beq_iff_eq.mpr k3
              have k3d : decide (c.f0 = 3) = true := decide_eq_true k3
              have k3n : (c.f0 != 3) = false := bne_eq_false_iff_eq.mpr k3
              cases hq : ((ks.length : Int) == 0)
              · obtain rfl : false = bb := by simpa [hq] using h3
                clear h3
                go_wp2
                go_ret
                obtain rfl : none = r := by simpa using HR.out
                exact HS.out.fin rfl
              · cases he : (c.f1.toList == ([] : List UInt8))
                · obtain rfl : false = bb := by simpa [hq, he] using h3
                  clear h3
                  have hen : (c.f1.toList != ([] : List UInt8)) = true := by simp [bne, he]
                  go_wp2
                  go_ret
                  obtain rfl : none = r := by simpa using HR.out
                  exact HS.out.fin rfl
                · obtain rfl : true = bb := by simpa [hq, he] using h3
                  clear h3
                  have hen : (c.f1.toList != ([] : List UInt8)) = false := by simp [bne, he]
                  go_wp2
                  go_ret
                  obtain rfl : some (CT.node c.f0 c.f1 ks) = r := by simpa using HR.out
                  exact HS.out.node rfl
            · rw [if_neg k3] at h3
              have k3e : (c.f0 == 3) = false := beq_eq_false_iff_ne.mpr k3
              have k3d : decide (c.f0 = 3) = false := decide_eq_false k3
              have k3n : (c.f0 != 3) = true := bne_iff_ne.mpr k3
              by_cases k4 : c.f0 = 4
              · rw [if_pos k4] at h3
                have k4e : (c.f0 == 4) = true := beq_iff_eq.mpr k4
                have k4d : decide (c.f0 = 4) = true := decide_eq_true k4
                have k4n : (c.f0 != 4) = false := bne_eq_false_iff_eq.mpr k4
                cases hq : ((ks.length : Int) == 1)
                · obtain rfl : false = bb := by simpa [hq] using h3
                  clear h3
                  go_wp2
                  go_ret
                  obtain rfl : none = r := by simpa using HR.out
                  exact HS.out.fin rfl
                · cases he : (c.f1.toList == ([] : List UInt8))
                  · obtain rfl : false = bb := by simpa [hq, he] using h3
                    clear h3
                    have hen : (c.f1.toList != ([] : List UInt8)) = true := by simp [bne, he]
                    go_wp2
                    go_ret
                    obtain rfl : none = r := by simpa using HR.out
                    exact HS.out.fin rfl
                  · obtain rfl : true = bb := by simpa [hq, he] using h3
                    clear h3
                    have hen : (c.f1.toList != ([] : List UInt8)) = false := by simp [bne, he]
                    go_wp2
                    go_ret
                    obtain rfl : some (CT.node c.f0 c.f1 ks) = r := by simpa using HR.out
                    exact HS.out.node rfl
              · rw [if_neg k4] at h3
                have k4e : (c.f0 == 4) = false := beq_eq_false_iff_ne.mpr k4
                have k4d : decide (c.f0 = 4) = false := decide_eq_false k4
                have k4n : (c.f0 != 4) = true := bne_iff_ne.mpr k4
                by_cases k5 : c.f0 = 5
                · rw [if_pos k5] at h3
                  have k5e : (c.f0 == 5) = true := beq_iff_eq.mpr k5
                  have k5d : decide (c.f0 = 5) = true := decide_eq_true k5
                  have k5n : (c.f0 != 5) = false := bne_eq_false_iff_eq.mpr k5
                  cases hq : decide (2 ≤ (ks.length : Int))
                  · obtain rfl : false = bb := by simpa [hq] using h3
                    clear h3
                    go_wp2
                    go_ret
                    obtain rfl : none = r := by simpa using HR.out
                    exact HS.out.fin rfl
                  · cases he : (c.f1.toList == ([] : List UInt8))
                    · obtain rfl : false = bb := by simpa [hq, he] using h3
                      clear h3
                      have hen : (c.f1.toList != ([] : List UInt8)) = true := by simp [bne, he]
                      go_wp2
                      go_ret
                      obtain rfl : none = r := by simpa using HR.out
                      exact HS.out.fin rfl
                    · obtain rfl : true = bb := by simpa [hq, he] using h3
                      clear h3
                      have hen : (c.f1.toList != ([] : List UInt8)) = false := by simp [bne, he]
                      go_wp2
                      go_ret
                      obtain rfl : some (CT.node c.f0 c.f1 ks) = r := by simpa using HR.out
                      exact HS.out.node rfl
                · rw [if_neg k5] at h3
                  have k5e : (c.f0 == 5) = false := beq_eq_false_iff_ne.mpr k5
                  have k5d : decide (c.f0 = 5) = false := decide_eq_false k5
                  have k5n : (c.f0 != 5) = true := bne_iff_ne.mpr k5
                  by_cases k6 : c.f0 = 6
                  · rw [if_pos k6] at h3
                    have k6e : (c.f0 == 6) = true := beq_iff_eq.mpr k6
                    have k6d : decide (c.f0 = 6) = true := decide_eq_true k6
                    have k6n : (c.f0 != 6) = false := bne_eq_false_iff_eq.mpr k6
                    cases hq : decide (2 ≤ (ks.length : Int))
                    · obtain rfl : false = bb := by simpa [hq] using h3
                      clear h3
                      go_wp2
                      go_ret
                      obtain rfl : none = r := by simpa using HR.out
                      exact HS.out.fin rfl
                    · cases he : (c.f1.toList == ([] : List UInt8))
                      · obtain rfl : false = bb := by simpa [hq, he] using h3
                        clear h3
                        have hen : (c.f1.toList != ([] : List UInt8)) = true := by simp [bne, he]
                        go_wp2
                        go_ret
                        obtain rfl : none = r := by simpa using HR.out
                        exact HS.out.fin rfl
                      · obtain rfl : true = bb := by simpa [hq, he] using h3
                        clear h3
                        have hen : (c.f1.toList != ([] : List UInt8)) = false := by simp [bne, he]
                        go_wp2
                        go_ret
                        obtain rfl : some (CT.node c.f0 c.f1 ks) = r := by simpa using HR.out
                        exact HS.out.node rfl
                  · rw [if_neg k6] at h3
                    have k6e : (c.f0 == 6) = false := beq_eq_false_iff_ne.mpr k6
                    have k6d : decide (c.f0 = 6) = false := decide_eq_false k6
                    have k6n : (c.f0 != 6) = true := bne_iff_ne.mpr k6
                    obtain rfl : false = bb := by simpa using h3
                    clear h3
                    go_wp2
                    go_ret
                    obtain rfl : none = r := by simpa using HR.out
                    exact HS.out.fin rfl
theorem ct_env0 {w w4 : World} {A0 : Option Addr} {c0 : Nat} {cs : List S45} (hr : Kd.C k45 w A0 cs.length cs) (hc : cs.length ≤ c0) (hb : w4.heap[w.heap.size + 1 + 1]? = some (.cells #[(.func (.func 46) #[] #[.pointer (some ⟨w.heap.size + 1, 0, none⟩), .pointer (some ⟨w.heap.size, 0, none⟩), .pointer (some ⟨w.heap.size + 1 + 1, 0, none⟩)])] 68 (0, 0)))
    (hp : Put (w.heap.size + 1 + 1) (((w.alloc (.cells #[.slice A0 cs.length c0] 25)).alloc (.cells #[.int .i64 0] 3)).alloc (.cells #[.nilFunc] 68)) w4) : CtEnv w4 (w.heap.size + 1) w.heap.size (w.heap.size + 1 + 1) A0 c0 cs ∧ w4.heap[w.heap.size + 1]? = some (.cells #[.int .i64 0] 3 (0, 0)) ∧ Below w.heap.size w w4 := by
  have s1 : ∀ (u : World) (o : Obj), (u.alloc o).heap.size = u.heap.size + 1 := fun u o => Array.size_push _
  have h1 : (((w.alloc (.cells #[.slice A0 cs.length c0] 25)).alloc (.cells #[.int .i64 0] 3)).alloc (.cells #[.nilFunc] 68)).heap[w.heap.size]? = some (.cells #[.slice A0 cs.length c0] 25 (0, 0)) := blk_alloc (blk_alloc (blk_new w _) _) _
  have h2 : (((w.alloc (.cells #[.slice A0 cs.length c0] 25)).alloc (.cells #[.int .i64 0] 3)).alloc (.cells #[.nilFunc] 68)).heap[w.heap.size + 1]? = some (.cells #[.int .i64 0] 3 (0, 0)) := blk_alloc (by have := blk_new (w.alloc (.cells #[.slice A0 cs.length c0] 25)) (.cells #[.int .i64 0] 3); rw [s1] at this; exact this) _
  have B : Below w.heap.size w (((w.alloc (.cells #[.slice A0 cs.length c0] 25)).alloc (.cells #[.int .i64 0] 3)).alloc (.cells #[.nilFunc] 68)) := below_alloc (below_alloc (below_alloc (Below.refl _ _) _) _) _
  have B4 : Below w.heap.size w w4 := ⟨hp.os.trans B.os, hp.tape.trans B.tape, hp.output.trans B.output, by rw [hp.size]; exact B.size, fun k hk => (hp.block k (by omega)).trans (B.block k hk)⟩
  refine ⟨⟨by omega, by omega, ?_, ?_, hb, hc, ?_⟩, ?_, B4⟩
  · rw [hp.size, s1, s1, s1]; omega
  · rw [hp.block _ (by omega)]; exact h1
  · intro W' hk
    exact Kd.Heap.C (Kd.heap_iso _ (Kd.heap_pair (Kd.heap_int _) (Kd.heap_pair Kd.heap_string (Kd.heap_int _)))) (fun k hlt => (hk.2 k (Nat.lt_of_lt_of_le hlt B4.size) (by omega) (by simp)).trans (B4.block k hlt)) hr
  · rw [hp.block _ (by omega)]; exact h2
theorem ctRes_old {w w1 w2 : World} {v : Value} {t : Option CT} (h : CtRes w1 w2 v t) (hs : w.heap.size ≤ w1.heap.size) : CtRes w w2 v t := by
  cases t with
  | none => exact h
  | some t => exact Kd.FK_mono h (fun k hk => Nat.le_trans hs hk)
set_option maxHeartbeats 8000000 in
set_option maxRecDepth 100000 in
theorem ct_tree (k : Nat) (A0 : Option Addr) (c0 : Nat) (cs : List S45) (r : Option CT) (w : World) (hr : Kd.C k45 w A0 cs.length cs) (hc : cs.length ≤ c0) (h : impl_condTree.f k cs = some r) :
    Calls Try.prog 29 #[.slice A0 cs.length c0] w fun e w' => ∃ v, e = .returned v ∧ CtRes w w' v r ∧ Below w.heap.size w w' := by
  have hmf : ∀ (fn : Fn) (first cap : Array Value) (w : World), (Instr.makeFunc fn first cap).run Try.prog w = .ok (.func fn first cap) w := fun _ _ _ _ => rfl
  have HR := Aside0.mk hr
  have HC := Aside0.mk hc
  clear hr hc
  unfold impl_condTree.f at h
  by_cases c1 : (cs.length : Int) > 300
  · rw [if_pos c1] at h
    obtain rfl : none = r := by simpa using h
    clear h
    have b1 : decide (300 < (cs.length : Int)) = true := decide_eq_true c1
    clear c1
    go_enter Try.func29, Try.ntmps29
    go_wp2
    go_ret
    exact ⟨_, rfl, rfl, below_alloc (Below.refl _ _) _⟩
  rw [if_neg c1] at h
  have b1 : decide (300 < (cs.length : Int)) = false := decide_eq_false c1
  clear c1
  obtain ⟨⟨t, j⟩, e1, h2⟩ := Option.bind_eq_some_iff.mp h
  clear h
  have E1 := Aside0.mk e1
  have H2 := Aside0.mk h2
  clear e1 h2
  try dsimp only at H2
  by_cases c2 : j = (cs.length : Int)
  · have r2 : t = r := by have h := H2.out; rw [if_pos c2] at h; exact Option.some.inj h
    subst r2
    have b2 : (j == (cs.length : Int)) = true := beq_iff_eq.mpr c2
    have b3 : (j != (cs.length : Int)) = false := bne_eq_false_iff_eq.mpr c2
    clear c2 H2
    go_enter Try.func29, Try.ntmps29
    go_wp2_with (first | ((with_reducible refine gate_dst (N := 9) rfl ?_); (refine Kd.event_run ?mf_g (v := (.func (.func 46) #[] #[.pointer (some ⟨w.heap.size + 1, 0, none⟩), .pointer (some ⟨w.heap.size, 0, none⟩), .pointer (some ⟨w.heap.size + 1 + 1, 0, none⟩)])) (w1 := (((w.alloc (.cells #[.slice A0 cs.length c0] 25)).alloc (.cells #[.int .i64 0] 3)).alloc (.cells #[.nilFunc] 68))) ?mf_r ?_; (case mf_g => rfl); (case mf_r => first | rfl | (go_simp; rfl) | (go_simp; done)); refine store_box (t := 68) (p := 4) (v := .tmp 9) (g := w.heap.size + 1 + 1) (off := 0) (e := 68) (cs := #[.nilFunc]) (cs' := #[(.func (.func 46) #[] #[.pointer (some ⟨w.heap.size + 1, 0, none⟩), .pointer (some ⟨w.heap.size, 0, none⟩), .pointer (some ⟨w.heap.size + 1 + 1, 0, none⟩)])]) (u := (.func (.func 46) #[] #[.pointer (some ⟨w.heap.size + 1, 0, none⟩), .pointer (some ⟨w.heap.size, 0, none⟩), .pointer (some ⟨w.heap.size + 1 + 1, 0, none⟩)])) ?st_g ?st_o ?st_N ?st_a ?st_x ?st_t ?st_1 ?st_b ?st_f ?st_c ?_; (case st_g => rfl); (case st_o => rfl); (case st_N => rfl); (case st_a => rfl); (case st_x => rfl); (case st_t => kernel_rfl); (case st_1 => intro q_ hq_; simp [Value.cells] at hq_; subst hq_; rfl); (case st_b => have h_ := blk_new ((w.alloc (.cells #[.slice A0 cs.length c0] 25)).alloc (.cells #[.int .i64 0] 3)) (.cells #[.nilFunc] 68); simp only [World.alloc, Array.size_push] at h_ ⊢; exact h_); (case st_f => exact Nat.le_refl _); (case st_c => rfl); intro w4 hb_ hp_; have HEV := Aside0.mk (ct_env0 HR.out HC.out hb_ hp_); clear hb_ hp_; have kc_ : w4.cell? ⟨w.heap.size, 0, none⟩ = some (.slice A0 cs.length c0) := (blk_cell HEV.out.1.2.2.2.1 0).trans rfl; have kt_ : w4.cell? ⟨w.heap.size + 1 + 1, 0, none⟩ = some (.func (.func 46) #[] #[.pointer (some ⟨w.heap.size + 1, 0, none⟩), .pointer (some ⟨w.heap.size, 0, none⟩), .pointer (some ⟨w.heap.size + 1 + 1, 0, none⟩)]) := (blk_cell HEV.out.1.2.2.2.2.1 0).trans rfl)) | ((go_at_call 46); ((with_reducible refine (ct_take k _ _ _ A0 c0 cs _ _ 0 t j w4 HEV.out.1 HEV.out.2.1 E1.out).mono ?_); rintro e_ w5 ⟨v5, rfl, hres_, hi_, hk_⟩; have HE5 := Aside0.mk (HEV.out.1.step hk_.2); have HB5 := Aside0.mk (HEV.out.2.2.trans (hk_.1.mono (Nat.le_succ _))); have HRS := Aside0.mk (ctRes_old hres_ HEV.out.2.2.size); have ki_ : w5.cell? ⟨w.heap.size + 1, 0, none⟩ = some (.int .i64 j) := (blk_cell hi_ 0).trans rfl; clear kc_ kt_; have kc_ : w5.cell? ⟨w.heap.size, 0, none⟩ = some (.slice A0 cs.length c0) := (blk_cell HE5.out.2.2.2.1 0).trans rfl; clear hres_ hi_ hk_)))
    go_ret
    exact ⟨_, rfl, HRS.out, HB5.out⟩
  · have r2 : none = r := by have h := H2.out; rw [if_neg c2] at h; exact Option.some.inj h
    subst r2
    have b2 : (j == (cs.length : Int)) = false := beq_eq_false_iff_ne.mpr c2
    have b3 : (j != (cs.length : Int)) = true := bne_iff_ne.mpr c2
    clear c2 H2
    go_enter Try.func29, Try.ntmps29
    go_wp2_with (first | ((with_reducible refine gate_dst (N := 9) rfl ?_); (refine Kd.event_run ?mf_g (v := (.func (.func 46) #[] #[.pointer (some ⟨w.heap.size + 1, 0, none⟩), .pointer (some ⟨w.heap.size, 0, none⟩), .pointer (some ⟨w.heap.size + 1 + 1, 0, none⟩)])) (w1 := (((w.alloc (.cells #[.slice A0 cs.length c0] 25)).alloc (.cells #[.int .i64 0] 3)).alloc (.cells #[.nilFunc] 68))) ?mf_r ?_; (case mf_g => rfl); (case mf_r => first | rfl | (go_simp; rfl) | (go_simp; done)); refine store_box (t := 68) (p := 4) (v := .tmp 9) (g := w.heap.size + 1 + 1) (off := 0) (e := 68) (cs := #[.nilFunc]) (cs' := #[(.func (.func 46) #[] #[.pointer (some ⟨w.heap.size + 1, 0, none⟩), .pointer (some ⟨w.heap.size, 0, none⟩), .pointer (some ⟨w.heap.size + 1 + 1, 0, none⟩)])]) (u := (.func (.func 46) #[] #[.pointer (some ⟨w.heap.size + 1, 0, none⟩), .pointer (some ⟨w.heap.size, 0, none⟩), .pointer (some ⟨w.heap.size + 1 + 1, 0, none⟩)])) ?st_g ?st_o ?st_N ?st_a ?st_x ?st_t ?st_1 ?st_b ?st_f ?st_c ?_; (case st_g => rfl); (case st_o => rfl); (case st_N => rfl); (case st_a => rfl); (case st_x => rfl); (case st_t => kernel_rfl); (case st_1 => intro q_ hq_; simp [Value.cells] at hq_; subst hq_; rfl); (case st_b => have h_ := blk_new ((w.alloc (.cells #[.slice A0 cs.length c0] 25)).alloc (.cells #[.int .i64 0] 3)) (.cells #[.nilFunc] 68); simp only [World.alloc, Array.size_push] at h_ ⊢; exact h_); (case st_f => exact Nat.le_refl _); (case st_c => rfl); intro w4 hb_ hp_; have HEV := Aside0.mk (ct_env0 HR.out HC.out hb_ hp_); clear hb_ hp_; have kc_ : w4.cell? ⟨w.heap.size, 0, none⟩ = some (.slice A0 cs.length c0) := (blk_cell HEV.out.1.2.2.2.1 0).trans rfl; have kt_ : w4.cell? ⟨w.heap.size + 1 + 1, 0, none⟩ = some (.func (.func 46) #[] #[.pointer (some ⟨w.heap.size + 1, 0, none⟩), .pointer (some ⟨w.heap.size, 0, none⟩), .pointer (some ⟨w.heap.size + 1 + 1, 0, none⟩)]) := (blk_cell HEV.out.1.2.2.2.2.1 0).trans rfl)) | ((go_at_call 46); ((with_reducible refine (ct_take k _ _ _ A0 c0 cs _ _ 0 t j w4 HEV.out.1 HEV.out.2.1 E1.out).mono ?_); rintro e_ w5 ⟨v5, rfl, hres_, hi_, hk_⟩; have HE5 := Aside0.mk (HEV.out.1.step hk_.2); have HB5 := Aside0.mk (HEV.out.2.2.trans (hk_.1.mono (Nat.le_succ _))); have HRS := Aside0.mk (ctRes_old hres_ HEV.out.2.2.size); have ki_ : w5.cell? ⟨w.heap.size + 1, 0, none⟩ = some (.int .i64 j) := (blk_cell hi_ 0).trans rfl; clear kc_ kt_; have kc_ : w5.cell? ⟨w.heap.size, 0, none⟩ = some (.slice A0 cs.length c0) := (blk_cell HE5.out.2.2.2.1 0).trans rfl; clear hres_ hi_ hk_)))
    go_ret
    exact ⟨_, rfl, rfl, HB5.out⟩
def plL (f : CT → Option CT) (K : Int) : Nat → List CT → Int → List CT → Option (List CT)
  | 0, _, _, _ => none
  | k + 1, l, i, acc => if i < (l.length : Int) then (if 0 ≤ i then (f (l.getD i.toNat (.node 0 ⟨#[]⟩ []))).bind fun p => (if p.kind = K then (if acc.length + p.kids.length < 1000000 then plL f K k l (wrap64 (i + 1)) (acc ++ p.kids) else none) else (if acc.length < 1000000 then plL f K k l (wrap64 (i + 1)) (acc ++ [p]) else none)) else none) else some acc
def ctPlain : Nat → CT → Bool → Option CT
  | 0, _, _ => none
  | k + 1, t, nt => if t.kind = 1 then (if nt = true then some (.node 4 ⟨#[]⟩ [t]) else some t) else if t.kind = 2 then (if nt = true then some (.node (wrap64 (5 - t.kind)) ⟨#[]⟩ []) else some t) else if t.kind = 3 then (if nt = true then some (.node (wrap64 (5 - t.kind)) ⟨#[]⟩ []) else some t) else if t.kind = 4 then (if 0 < t.kids.length then ctPlain k (t.kids.getD 0 (.node 0 ⟨#[]⟩ [])) (!nt) else none) else (plL (fun x => ctPlain k x nt) (if nt = true then wrap64 (11 - t.kind) else t.kind) k t.kids 0 []).bind fun acc => some (.node (if nt = true then wrap64 (11 - t.kind) else t.kind) ⟨#[]⟩ acc)
def flL (f : CT → List S45 → Option (List S45)) : Nat → List CT → Int → List S45 → Option (List S45)
  | 0, _, _, _ => none
  | k + 1, l, i, r => if i < (l.length : Int) then (if 0 ≤ i then (f (l.getD i.toNat (.node 0 ⟨#[]⟩ [])) r).bind fun r1 => flL f k l (wrap64 (i + 1)) r1 else none) else some r
def ctFlat : Nat → CT → List S45 → Option (List S45)
  | 0, _, _ => none
  | k + 1, t, l => if l.length < 1000000 then (flL (fun x r => ctFlat k x r) k t.kids 0 (l ++ [⟨t.kind, t.name, 0⟩])).bind fun r => (if l.length < r.length then some (r.set l.length ⟨(rd_T45 r (l.length : Int)).f0, (rd_T45 r (l.length : Int)).f1, wrap64 (wrap64 ((r.length : Int) - (l.length : Int)) - 1)⟩) else none) else none
def impl_Plain.f (k : Nat) (l0 : List S45) : Option (List S45) := (impl_condTree.f k l0).bind fun t => match t with | none => some [] | some x => (ctPlain k x false).bind fun p => ctFlat k p []
theorem plL_mono {f g : CT → Option CT} (K : Int) (h : ∀ j, LeO (f j) (g j)) : ∀ k l i acc, LeO (plL f K k l i acc) (plL g K (k + 1) l i acc)
  | 0, _, _, _ => fun r h => by simp [plL] at h
  | k + 1, l, i, acc => by
    unfold plL
    exact LeO.ite (LeO.ite (LeO.bind (h _) fun t => LeO.ite (LeO.ite (plL_mono K h k _ _ _) (LeO.refl _)) (LeO.ite (plL_mono K h k _ _ _) (LeO.refl _))) (LeO.refl _)) (LeO.refl _)
theorem ctPlain_mono : ∀ k t b, LeO (ctPlain k t b) (ctPlain (k + 1) t b)
  | 0, _, _ => fun r h => by simp [ctPlain] at h
  | k + 1, t, b => by
    rw [ctPlain, ctPlain]
    exact LeO.ite (LeO.refl _) (LeO.ite (LeO.refl _) (LeO.ite (LeO.refl _) (LeO.ite (LeO.ite (ctPlain_mono k _ _) (LeO.refl _)) (LeO.bind (plL_mono _ (fun x => ctPlain_mono k x b) k _ _ _) fun _ => LeO.refl _))))
theorem flL_mono {f g : CT → List S45 → Option (List S45)} (h : ∀ j r, LeO (f j r) (g j r)) : ∀ k l i r, LeO (flL f k l i r) (flL g (k + 1) l i r)
  | 0, _, _, _ => fun r h => by simp [flL] at h
  | k + 1, l, i, r => by
    unfold flL
    exact LeO.ite (LeO.ite (LeO.bind (h _ _) fun t => flL_mono h k _ _ _) (LeO.refl _)) (LeO.refl _)
theorem ctFlat_mono : ∀ k t l, LeO (ctFlat k t l) (ctFlat (k + 1) t l)
  | 0, _, _ => fun r h => by simp [ctFlat] at h
  | k + 1, t, l => by
    rw [ctFlat, ctFlat]
    exact LeO.ite (LeO.bind (flL_mono (fun x r => ctFlat_mono k x r) k _ _ _) fun _ => LeO.refl _) (LeO.refl _)
theorem impl_Plain.mono : ∀ a0 k, LeO (impl_Plain.f k a0) (impl_Plain.f (k + 1) a0) := by
  intro a0 k
  unfold impl_Plain.f
  refine LeO.bind (impl_condTree.mono _ _) fun t => ?_
  cases t with
  | none => exact LeO.refl _
  | some x => exact LeO.bind (ctPlain_mono _ _ _) fun _ => ctFlat_mono _ _ _
def Gr (base : Nat) (w w' : World) (v v' : Value) : Prop := Below base w w' ∧ w.grownBy w' v.ownBlock ∧ (v'.ownBlock = v.ownBlock ∨ ∃ b, v'.ownBlock = some b ∧ w.heap.size ≤ b)
theorem Gr.size {base : Nat} {w w' : World} {v v' : Value} (h : Gr base w w' v v') : w.heap.size ≤ w'.heap.size := h.2.1.size
theorem Gr.trans {base : Nat} {w w1 w2 : World} {v v1 v2 : Value} (h : Gr base w w1 v v1) (h2 : Gr base w1 w2 v1 v2) : Gr base w w2 v v2 := by
  obtain ⟨a1, b1, c1⟩ := h
  obtain ⟨a2, b2, c2⟩ := h2
  have hs := b1.size
  refine ⟨a1.trans a2, ⟨b2.os.trans b1.os, b2.tape.trans b1.tape, b2.output.trans b1.output, Nat.le_trans b1.size b2.size, fun k hk hne => (b2.block k (by omega) ?_).trans (b1.block k hk hne)⟩, ?_⟩
  · rcases c1 with c1 | ⟨b, c1, hb⟩
    · rw [c1]; exact hne
    · rw [c1]; intro e; injection e with e; omega
  · rcases c2 with c2 | ⟨b, c2, hb⟩
    · rcases c1 with c1 | ⟨b', c1, hb'⟩
      · exact .inl (c2.trans c1)
      · exact .inr ⟨b', c2.trans c1, hb'⟩
    · exact .inr ⟨b, c2, by omega⟩
theorem Gr.below {base : Nat} {w w1 w2 : World} {v v1 : Value} (h : Gr base w w1 v v1) (hb : Below w1.heap.size w1 w2) (hl : base ≤ w1.heap.size) : Gr base w w2 v v1 :=
  h.trans ⟨hb.mono hl, ⟨hb.os, hb.tape, hb.output, hb.size, fun k hk _ => hb.block k hk⟩, .inl rfl⟩
theorem Gr.refl (base : Nat) (w : World) (v : Value) : Gr base w w v v := ⟨Below.refl _ _, ⟨rfl, rfl, rfl, Nat.le_refl _, fun _ _ _ => rfl⟩, .inl rfl⟩
/-- What lies apart from the row stays, and lies apart from what it has become. -/
theorem Gr.fk {base : Nat} {w w1 : World} {v v1 : Value} {t : CT} {ok : Nat → Prop} {cs : List Value} (h : Gr base w w1 v v1) (hf : Kd.FK (Kd.ct 71 47) w ok t cs) (hok : ∀ b, ok b → b < w.heap.size ∧ some b ≠ v.ownBlock) : Kd.FK (Kd.ct 71 47) w1 ok t cs ∧ ∀ b, ok b → b < w1.heap.size ∧ some b ≠ v1.ownBlock := by
  have hs := h.2.1.size
  refine ⟨Foot.step hf (fun k hk hlt => h.2.1.block k hlt (hok k hk).2), fun b hb => ⟨by have := (hok b hb).1; omega, ?_⟩⟩
  rcases h.2.2 with c | ⟨g, c, hg⟩
  · rw [c]; exact (hok b hb).2
  · rw [c]; intro e; injection e with e; have := (hok b hb).1; omega
theorem Gr.f {base : Nat} {w w1 : World} {v v1 : Value} {ts : List CT} {ok : Nat → Prop} {A : Option Addr} {n : Nat} (h : Gr base w w1 v v1) (hf : Kd.F (Kd.ct 71 47) w ok A n ts) (hok : ∀ b, ok b → b < w.heap.size ∧ some b ≠ v.ownBlock) : Kd.F (Kd.ct 71 47) w1 ok A n ts :=
  Foot.step hf (fun k hk hlt => h.2.1.block k hlt (hok k hk).2)
def FlPost (base : Nat) (w : World) (v : Value) (r : List S45) (e : Ending) (w' : World) : Prop := ∃ v', e = .returned v' ∧ Kd.R k45 45 w' base (fun _ => True) v' r ∧ Gr base w w' v v'
theorem ct_kidF {w : World} {ok : Nat → Prop} {A : Option Addr} {n : Nat} {ks : List CT} (h : Kd.F (Kd.ct 71 47) w ok A n ks) (i : Int) (h0 : 0 ≤ i) (h1 : i < n) : ∃ ad v, A = some ad ∧ w.cell? (ad.add i.toNat) = some v ∧ Kd.FK (Kd.ct 71 47) w ok (ks.getD i.toNat (.node 0 ⟨#[]⟩ [])) [v] := by
  obtain ⟨ad, c, rfl, hl, hK, hc, _⟩ := Kd.F_get h (.node 0 ⟨#[]⟩ []) i h0 h1
  obtain ⟨b, A1, c1, rfl, _⟩ := Kd.ct_FK hK
  have h2 := hc 0 _ rfl
  rw [show (Kd.ct 71 47).sz = 1 from rfl, Nat.mul_one, Nat.add_zero] at h2
  exact ⟨ad, _, rfl, h2, hK⟩
def ct_flat.T2 : Bool × List (List Nat × List Nat) := (true, [([], []), ([], []), ([1], [1]), ([2], [2]), ([3], [3]), ([], []), ([5], [5]), ([6], [6]), ([7], [7]), ([4, 8], [4, 8]), ([9], [9]), ([0, 10], [0, 10]), ([11, 11, 0, 1, 2, 3, 4, 5, 6, 7, 8, 9, 10, 11], [0, 11])])
def ct_flat.B2 : List Nat := [0, 0, 2, 6, 14, 0, 32, 96, 224, 510, 1022, 2047, 4095]
theorem ct_flat.tab2 : rtab .any (opsOf Try.f36 2) = ct_flat.T2 := by kernel_rfl
theorem ct_flat.bits2 : waitsOk ct_flat.T2.2 ct_flat.B2 = true := by kernel_rfl
set_option maxHeartbeats 8000000 in
set_option maxRecDepth 100000 in
theorem ct_flat (k : Nat) : ∀ (t : CT) (vx : Value) (okt : Nat → Prop) (v : Value) (l0 : List S45) (base : Nat) (r : List S45) (w : World), Kd.FK (Kd.ct 71 47) w okt t [vx] → (∀ b, okt b → b < w.heap.size ∧ some b ≠ v.ownBlock) → Kd.R k45 45 w base (fun _ => True) v l0 → base ≤ w.heap.size → ctFlat k t l0 = some r →
    Calls Try.prog 36 #[vx, v] w (FlPost base w v r) := by
  induction k with
  | zero => intro t vx okt v l0 base r w _ _ _ _ h; simp [ctFlat] at h
  | succ k ih =>
  intro t vx okt v l0 base r w hF hok hR hbase h
  rw [ctFlat] at h
  by_cases c1 : l0.length < 1000000
  case neg => rw [if_neg c1] at h; simp at h
  rw [if_pos c1] at h
  obtain ⟨r1, e1, h⟩ := Option.bind_eq_some_iff.mp h
  obtain ⟨b, A, c, e_, hb, hn, hk⟩ := Kd.ct_FK hF
  obtain rfl : vx = .pointer (some ⟨b, 0, none⟩) := (by injection e_)
  obtain ⟨Al, cl, rfl⟩ := Kd.R_slice hR
  have kx0_ : w.cell? ⟨b, 0, none⟩ = some (.int .i64 t.kind) := (blk_cell hn.1 0).trans rfl
  have kx1_ : w.cell? ⟨b, 1, none⟩ = some (.string t.name) := (blk_cell hn.1 1).trans rfl
  have HF := Aside0.mk hF; have HOK := Aside0.mk hok; have HR := Aside0.mk hR; have HBS := Aside0.mk hbase; have HN := Aside0.mk hn; have HK := Aside0.mk hk; have HB := Aside0.mk hb
  have E1 := Aside0.mk e1; have H2 := Aside0.mk h; have HL := Aside0.mk c1
  clear hF hok hR hbase hn hk hb e_ e1 h c1
  go_enter Try.func36, Try.ntmps36
  go_wp2_with fail
  have HG2 := Aside0.mk ((Gr.refl base w (.slice Al l0.length cl)).below (w2 := w.drew) (below_drew (Below.refl _ _)) HBS.out)
  have HR2 := Aside0.mk (Kd.R_drew HR.out)
  have HBS2 := Aside0.mk (show base ≤ w.drew.heap.size from HBS.out)
  clear HR
  refine start_ (n := 13) (S := fun w' => w'.cell? ⟨b, 0, none⟩ = some (.int .i64 t.kind) ∧ w'.cell? ⟨b, 1, none⟩ = some (.string t.name)) (ds := []) #[false, false, false, false, false, false, false, false, false, false, false, false, false] (by kernel_rfl) rfl rfl ⟨kx0_, kx1_⟩ (fun hHeld => ?_); refine with_tabW ct_flat.tab2 ct_flat.bits2 (fun HT_ HW_ => ?_)
  generalize w.drew = w2 at HG2 HR2 HBS2 hHeld ⊢
  refine pure_ (i := 0) (N := some 10) (v := ?_) (a' := ?_) #[true, false, false, false, false, false, false, false, false, false, false, false, false] rfl rfl (any_of HT_.out (by kernel_rfl)) (fun _ _ _ h => h) (Or.inl ⟨by rfl, ?_⟩) ?_ ?_
  rotate_left
  · intro w'
    go_simp
    with_reducible rfl
  rotate_left
  · simp only [Act.put, List.setIfInBounds_toArray, List.set_cons_zero, List.set_cons_succ, i64_w, i32_w]
    rfl
  refine pure_ (i := 1) (N := some 11) (v := ?_) (a' := ?_) #[true, true, false, false, false, false, false, false, false, false, false, false, false] rfl rfl (any_of HT_.out (by kernel_rfl)) (fun _ _ _ h => h) (Or.inl ⟨by rfl, ?_⟩) ?_ ?_
  rotate_left
  · intro w'
    go_simp
    with_reducible rfl
  rotate_left
  · simp only [Act.put, List.setIfInBounds_toArray, List.set_cons_zero, List.set_cons_succ, i64_w, i32_w]
    rfl
  refine pure_ (i := 2) (N := some 12) (v := ?_) (a' := ?_) #[true, true, true, false, false, false, false, false, false, false, false, false, false] rfl rfl (any_of HT_.out (by kernel_rfl)) (fun _ _ _ h => h) (Or.inl ⟨by rfl, ?_⟩) ?_ ?_
  rotate_left
  · intro w'
    go_simp
    with_reducible rfl
  rotate_left
  · simp only [Act.put, List.setIfInBounds_toArray, List.set_cons_zero, List.set_cons_succ, i64_w, i32_w]
    rfl
  refine pure_ (i := 3) (N := some 13) (v := ?_) (a' := ?_) #[true, true, true, true, false, false, false, false, false, false, false, false, false] rfl rfl (any_of HT_.out (by kernel_rfl)) (fun _ _ _ h => h) (Or.inl ⟨by rfl, ?_⟩) ?_ ?_
  rotate_left
  · intro w'
    go_simp
    with_reducible rfl
  rotate_left
  · simp only [Act.put, List.setIfInBounds_toArray, List.set_cons_zero, List.set_cons_succ, i64_w, i32_w]
    rfl
  refine pure_ (i := 5) (N := some 15) (v := ?_) (a' := ?_) #[true, true, true, true, false, true, false, false, false, false, false, false, false] rfl rfl (any_of HT_.out (by kernel_rfl)) (fun _ _ _ h => h) (Or.inl ⟨by rfl, ?_⟩) ?_ ?_
  rotate_left
  · intro w'
    go_simp
    with_reducible rfl
  rotate_left
  · simp only [Act.put, List.setIfInBounds_toArray, List.set_cons_zero, List.set_cons_succ, i64_w, i32_w]
    rfl
  refine pure_ (i := 6) (N := some 16) (v := ?_) (a' := ?_) #[true, true, true, true, false, true, true, false, false, false, false, false, false] rfl rfl (any_of HT_.out (by kernel_rfl)) (fun _ _ _ h => h) (Or.inl ⟨by rfl, ?_⟩) ?_ ?_
  rotate_left
  · intro w'
    go_simp
    with_reducible rfl
  rotate_left
  · simp only [Act.put, List.setIfInBounds_toArray, List.set_cons_zero, List.set_cons_succ, i64_w, i32_w]
    rfl
  refine pure_ (i := 7) (N := some 17) (v := ?_) (a' := ?_) #[true, true, true, true, false, true, true, true, false, false, false, false, false] rfl rfl (any_of HT_.out (by kernel_rfl)) (fun _ _ _ h => h) (Or.inl ⟨by rfl, ?_⟩) ?_ ?_
  rotate_left
  · intro w'
    go_simp
    with_reducible rfl
  rotate_left
  · simp only [Act.put, List.setIfInBounds_toArray, List.set_cons_zero, List.set_cons_succ, i64_w, i32_w]
    rfl
  refine take_ (i := 4) (N := some 14) (v := ?_) (a' := ?_) #[true, true, true, true, true, true, true, true, false, false, false, false, false] rfl rfl (take_ofW HT_.out HW_.out (by kernel_rfl)) (fun _ _ _ h => h) (Or.inl ⟨by rfl, ?_⟩) hHeld ?_ ?_
  rotate_left
  · rintro w' ⟨s0, s1⟩
    go_simp
    with_reducible rfl
  rotate_left
  · simp only [Act.put, List.setIfInBounds_toArray, List.set_cons_zero, List.set_cons_succ, i64_w, i32_w]
    rfl
  refine take_ (i := 8) (N := some 18) (v := ?_) (a' := ?_) #[true, true, true, true, true, true, true, true, true, false, false, false, false] rfl rfl (take_ofW HT_.out HW_.out (by kernel_rfl)) (fun _ _ _ h => h) (Or.inl ⟨by rfl, ?_⟩) hHeld ?_ ?_
  rotate_left
  · rintro w' ⟨s0, s1⟩
    go_simp
    with_reducible rfl
  rotate_left
  · simp only [Act.put, List.setIfInBounds_toArray, List.set_cons_zero, List.set_cons_succ, i64_w, i32_w]
    rfl
  refine pure_ (i := 9) (N := some 19) (v := ?_) (a' := ?_) #[true, true, true, true, true, true, true, true, true, true, false, false, false] rfl rfl (any_of HT_.out (by kernel_rfl)) (fun _ _ _ h => h) (Or.inl ⟨by rfl, ?_⟩) ?_ ?_
  rotate_left
  · intro w'
    go_simp
    with_reducible rfl
  rotate_left
  · simp only [Act.put, List.setIfInBounds_toArray, List.set_cons_zero, List.set_cons_succ, i64_w, i32_w]
    rfl
  refine one_ (i := 10) (N := some 20) #[true, true, true, true, true, true, true, true, true, true, true, false, false] rfl rfl (one_of HT_.out (by kernel_rfl)) (by decide) (fun K hK => ?_)
  refine value_ (w1 := ?_) (v := ?_) (by rfl) rfl ?_ ?_
  rotate_left 2
  · go_simp
    constructor
    · rfl
    · rfl
  refine hK.out _ _ ⟨(World.cell?_alloc_lt _ _ _ (World.block_lt_of_cell? _ _ (hHeld.1))).trans (hHeld.1), (World.cell?_alloc_lt _ _ _ (World.block_lt_of_cell? _ _ (hHeld.2))).trans (hHeld.2)⟩ (fun hHeld => ?_)
  clear hK K
  refine norm_ (a' := ?_) ?_ ?_
  rotate_left
  · show Act.put _ (some 20) _ = _
    simp only [Act.put, List.setIfInBounds_toArray, List.set_cons_zero, List.set_cons_succ, i64_w, i32_w]
    rfl
  refine one_ (i := 11) (N := some 21) #[true, true, true, true, true, true, true, true, true, true, true, true, false] rfl rfl (one_of HT_.out (by kernel_rfl)) (by decide) (fun K hK => ?_)
  refine Kd.R_append_step k45 (w0 := w2) base (by rfl) (.tmp 10) (.tmp 20) 25 45 (.agg #[(.int .i64 0), (.string ⟨#[]⟩), (.int .i64 0)]) 32 rfl Try.underlying25 info45 rfl (by decide) (by omega) (.slice Al l0.length cl) l0 (⟨t.kind, t.name, 0⟩ : S45) [.int .i64 t.kind, .string t.name, .int .i64 0] (fun _ => True) (fun _ => False) rfl rfl ?aP (fun _ hk => hk.elim) ?aF ?aO (Below.refl _ _) ?aS ?aL ?_
  (case aP => exact k45_mkM _ _ _ (⟨t.kind, t.name, 0⟩ : S45))
  (case aF => exact (fun _ _ => trivial))
  (case aO => exact HR2.out)
  (case aS => exact HBS2.out)
  (case aL => have := HL.out; omega)
  intro v3 w3 hr3 hb3 hg3 hat3
  have HR3 := Aside0.mk hr3
  have HG3 := Aside0.mk (HG2.out.trans ⟨hb3, hg3, hat3⟩)
  clear hr3 hb3 hg3 hat3 HR2 HBS2 HG2
  have hb3_ := (HG3.out.2.1.block b (HOK.out b HB.out).1 (HOK.out b HB.out).2).trans HN.out.1
  have kx2_ : w3.cell? ⟨b, 2, none⟩ = some (.slice A t.kids.length c) := (blk_cell hb3_ 2).trans rfl
  refine hK.out _ _ ⟨(blk_cell hb3_ 0).trans rfl, (blk_cell hb3_ 1).trans rfl⟩ (fun hHeld => ?_)
  clear hb3_
  clear hK K
  refine norm_ (a' := ?_) ?_ ?_
  rotate_left
  · show Act.put _ (some 21) _ = _
    simp only [Act.put, List.setIfInBounds_toArray, List.set_cons_zero, List.set_cons_succ, i64_w, i32_w]
    rfl
  refine pure_ (i := 12) (N := some 1) (v := ?_) (a' := ?_) #[true, true, true, true, true, true, true, true, true, true, true, true, true] rfl rfl (any_of HT_.out (by kernel_rfl)) (fun _ _ _ h => h) (Or.inl ⟨by rfl, ?_⟩) ?_ ?_
  rotate_left
  · intro w'
    go_simp
    with_reducible rfl
  rotate_left
  · simp only [Act.put, List.setIfInBounds_toArray, List.set_cons_zero, List.set_cons_succ, i64_w, i32_w]
    rfl
  refine done_ (done_of HT_.out (by kernel_rfl)) ?_
  clear kx0_ kx1_ hHeld
  go_wp2_with fail
  go_loopg [1, 7, 27] k (fun kq v1 v7 v27 W' => ∃ (i : Int) (rr : List S45), v27 = .int .i64 i ∧ Aside0 (flL (fun x r => ctFlat k x r) kq t.kids i rr = some r1) ∧ Aside0 (kq ≤ k) ∧ Aside0 (Kd.R k45 45 W' base (fun _ => True) v1 rr) ∧ Aside0 (Gr base w W' (.slice Al l0.length cl) v1))
  case atStart => exact ⟨_, _, rfl, E1, ⟨Nat.le_refl _⟩, HR3, HG3⟩
  case round =>
    clear E1 HR3 HG3 kx2_
    obtain ⟨i, rr, rfl, HE, HKq, HRR, HG⟩ := hrel
    cases gk with
    | zero => exact absurd HE.out (by simp [flL])
    | succ kq =>
      have h := HE.out
      clear HE
      unfold flL at h
      by_cases c6 : i < (t.kids.length : Int)
      · rw [if_pos c6] at h
        have b6 : decide (i < (t.kids.length : Int)) = true := decide_eq_true c6
        by_cases c7 : 0 ≤ i
        case neg => rw [if_neg c7] at h; simp at h
        rw [if_pos c7] at h
        obtain ⟨r2, e2, h⟩ := Option.bind_eq_some_iff.mp h
        obtain ⟨ad, v0, rfl, hx, hK0⟩ := ct_kidF (HG.out.f HK.out HOK.out) i c7 c6
        have HKF := Aside0.mk hK0
        have E2 := Aside0.mk e2
        have H := Aside0.mk h
        have p7 := eq_true c7
        have q7 := eq_true c6
        clear hK0 c6 c7 e2 h
        go_wp2_with (first | ((go_at_call 36); ((with_reducible refine (ih _ v0 okt u1 rr base r2 _ HKF.out ((HG.out.fk HF.out HOK.out).2) HRR.out (Nat.le_trans HBS.out HG.out.size) E2.out).mono ?_); rintro e_ w4 ⟨v4, rfl, hr_, hg_⟩; have HR4 := Aside0.mk hr_; have HG4 := Aside0.mk (HG.out.trans hg_); clear hr_ hg_ HG HRR HKF)))
        go_roundg kq
        case measure => have := HKq.out; omega
        case rel => exact ⟨_, _, rfl, H, ⟨by have := HKq.out; omega⟩, HR4, HG4⟩
      · rw [if_neg c6] at h
        have b6 : decide (i < (t.kids.length : Int)) = false := decide_eq_false c6
        obtain rfl := Option.some.inj h
        clear h c6
        replace H2 := H2
        have h2 := H2.out
        clear H2
        by_cases c8 : l0.length < rr.length
        case neg => rw [if_neg c8] at h2; simp at h2
        rw [if_pos c8] at h2
        obtain rfl := Option.some.inj h2
        clear h2
        obtain ⟨g1, cap1, ev, hg1, hg1', cells1, hcl1⟩ := Kd.R_form HRR.out (by omega)
        subst ev
        have HCC := Aside0.mk (show ∀ (j : Nat) (u : Value), ([.int .i64 (rd_T45 rr (l0.length : Int)).f0, .string (rd_T45 rr (l0.length : Int)).f1, .int .i64 (rd_T45 rr (l0.length : Int)).f2] : List Value)[j]? = some u → wr.cell? ⟨g1, (l0.length : Int).toNat * k45.sz + j, none⟩ = some u from by
          obtain ⟨ad2, c2, eA2, _, hK2, hc2⟩ := Kd.C_get (Kd.R_reads' HRR.out).2.2 z45 (l0.length : Int) (by omega) (by omega)
          injection eA2 with eA2
          subst eA2
          obtain rfl := k45_open hK2
          intro j u hj
          have := hc2 j u hj
          rw [add_plain] at this
          simpa using this)
        have HL8 := Aside0.mk c8
        obtain ⟨ad1, eA, hy0, hy1, hy2⟩ := at_T45 (Kd.R_reads' HRR.out).2.2 (l0.length : Int) (by omega) (by omega)
        obtain rfl : (⟨g1, 0, none⟩ : Addr) = ad1 := by injection eA
        have q8 : ((l0.length : Int) < (rr.length : Int)) = True := eq_true (by omega)
        have q9 : (l0.length < rr.length) = True := eq_true c8
        have p8 : (0 ≤ (l0.length : Int)) = True := eq_true (by omega)
        clear hg1 hg1' hcl1 c8 eA
        go_wp2_with (first | ((with_reducible refine gate_dst (N := 43) rfl ?_); (refine Kd.event_run ?fe_g (v := .pointer (some ⟨g1, l0.length * 3 + 2, none⟩)) (w1 := wr) ?fe_r ?_; (case fe_g => rfl); (case fe_r => first | (go_simp; done) | (go_simp; rfl)); refine Kd.R_store k45 (w0 := wr) base rfl rfl 2 (.tmp 43) (.tmp 41) rfl 45 (g := g1) (n := rr.length) (cap := cap1) (o' := l0.length * 3 + 2) (l0.length : Int) 2 rr (⟨(rd_T45 rr (l0.length : Int)).f0, (rd_T45 rr (l0.length : Int)).f1, wrap64 (wrap64 ((rr.length : Int) - (l0.length : Int)) - 1)⟩ : S45) (.int .i64 (wrap64 (wrap64 ((rr.length : Int) - (l0.length : Int)) - 1))) [.int .i64 (wrap64 (wrap64 ((rr.length : Int) - (l0.length : Int)) - 1))] [.int .i64 (rd_T45 rr (l0.length : Int)).f0, .string (rd_T45 rr (l0.length : Int)).f1, .int .i64 (rd_T45 rr (l0.length : Int)).f2] (fun _ => True) (fun _ => False) rfl ?st_f rfl rfl ?st_t ?st_1 HRR.out ?st_0 ?st_i rfl ?st_c ?st_j ?st_M (fun _ hk => hk.elim) (Below.refl _ _) ?_; (case st_f => rw [Int.toNat_natCast]; rfl); (case st_t => kernel_rfl); (case st_1 => intro q_ hq_; rw [List.mem_singleton.1 hq_]; rfl); (case st_0 => omega); (case st_i => have := HL8.out; omega); (case st_c => exact HCC.out); (case st_j => exact Nat.le_refl 3); (case st_M => exact k45_mkM _ _ _ (⟨(rd_T45 rr (l0.length : Int)).f0, (rd_T45 rr (l0.length : Int)).f1, wrap64 (wrap64 ((rr.length : Int) - (l0.length : Int)) - 1)⟩ : S45)); intro w5 hr5 hb5 hg5; have HR5 := Aside0.mk hr5; have HG5 := Aside0.mk (HG.out.trans (v2 := .slice (some ⟨g1, 0, none⟩) rr.length cap1) ⟨hb5, hg5, .inl rfl⟩); clear hr5 hb5 hg5)))
        go_ret
        exact ⟨_, rfl, by rw [← Int.toNat_natCast l0.length]; exact HR5.out, HG5.out⟩
theorem F_one {α : Type} {d : Kd α} {w : World} {ok : Nat → Prop} {g e : Nat} {u : Value} {x : α} (hs : d.sz = 1) (hg : ok g) (hb : w.heap[g]? = some (.cells #[u] e (0, 0))) (hf : Kd.FK d w ok x [u]) : Kd.F d w ok (some ⟨g, 0, none⟩) ([x].length) [x] := fun W' hW => by
  have hK := hf W' hW
  have hb' := (hW g hg (blk_lt hb)).trans hb
  refine ⟨rfl, by show 1 ≤ 9223372036854775807; decide, fun _ => ⟨_, rfl, fun j p hj => ?_⟩⟩
  obtain rfl : j = 0 := by have := (List.getElem?_eq_some_iff.1 hj).1; simpa using this
  obtain rfl : x = p := by simpa using hj
  refine ⟨[u], hs.symm, hK, fun i u' hi => ?_⟩
  obtain rfl : i = 0 := by have := (List.getElem?_eq_some_iff.1 hi).1; simpa using this
  obtain rfl : u = u' := by simpa using hi
  rw [hs]
  exact (blk_cell hb' 0).trans rfl
def PlPost (okt : Nat → Prop) (w : World) (r : CT) (e : Ending) (w' : World) : Prop := ∃ v', e = .returned v' ∧ Kd.FK (Kd.ct 71 47) w' (fun k => okt k ∨ w.heap.size ≤ k) r [v'] ∧ Below w.heap.size w w'
theorem pl_leaf {okt : Nat → Prop} {w w' : World} {g : Nat} {K : Int} (h : w'.heap[g]? = some (.cells #[.int .i64 K, .string ⟨#[]⟩, .slice none 0 0] 71 (0, 0))) (hg : w.heap.size ≤ g) (hb : Below w.heap.size w w') {v : Value} (hv : v = .pointer (some ⟨g, 0, none⟩)) : PlPost okt w (.node K ⟨#[]⟩ []) (.returned v) w' :=
  ⟨_, rfl, by rw [hv]; exact Kd.ct_FK_mk (t := CT.node K ⟨#[]⟩ []) (.inr hg) h (Nat.le_refl _) (Kd.F_nil _ _ _), hb⟩
theorem pl_not {okt : Nat → Prop} {w w1 w2 : World} {t : CT} {vx : Value} {g g2 : Nat} (hf : Kd.FK (Kd.ct 71 47) w okt t [vx]) (hok : ∀ b, okt b → b < w.heap.size) (h1 : w1.heap[g]? = some (.cells #[vx] 47 (0, 0))) (hg : w.heap.size ≤ g) (hb1 : Below w.heap.size w w1)
    (h2 : w2.heap[g2]? = some (.cells #[.int .i64 4, .string ⟨#[]⟩, .slice (some ⟨g, 0, none⟩) 1 1] 71 (0, 0))) (hg2 : w.heap.size ≤ g2) (hb2 : Below w1.heap.size w1 w2) {v : Value} (hv : v = .pointer (some ⟨g2, 0, none⟩)) : PlPost okt w (.node 4 ⟨#[]⟩ [t]) (.returned v) w2 := by
  have hb : Below w.heap.size w w2 := hb1.trans (hb2.mono hb1.size)
  have hf2 : Kd.FK (Kd.ct 71 47) w2 (fun k => okt k ∨ w.heap.size ≤ k) t [vx] := Kd.FK_mono (Foot.step hf (fun k hk _ => hb.block k (hok k hk))) (fun k hk => .inl hk)
  exact ⟨_, rfl, by rw [hv]; exact Kd.ct_FK_mk (t := CT.node 4 ⟨#[]⟩ [t]) (.inr hg2) h2 (Nat.le_refl _) (F_one rfl (.inr hg) (blk_below h1 hb2) hf2), hb⟩
structure PlSt (okt : Nat → Prop) (w W : World) (gy : Nat) (K : Int) (v : Value) (acc : List CT) : Prop where
  hy : W.heap[gy]? = some (.cells #[.int .i64 K, .string ⟨#[]⟩, v] 71 (0, 0))
  hn : Kd.N (Kd.ct 71 47) 47 W w.heap.size (fun k => okt k ∨ (w.heap.size ≤ k ∧ k ≠ gy)) v acc
  hb : Below w.heap.size w W
  hg : w.heap.size ≤ gy
  hok : ∀ b, okt b → b < w.heap.size
section
variable {okt : Nat → Prop} {w W W' W1 : World} {gy : Nat} {K : Int} {v v1 : Value} {acc acc1 : List CT}
theorem PlSt.mk0 (hok : ∀ b, okt b → b < w.heap.size) (hg : gy = w.heap.size) (hy : W.heap[gy]? = some (.cells #[.int .i64 K, .string ⟨#[]⟩, .slice none 0 0] 71 (0, 0))) (hb : Below w.heap.size w W) : PlSt okt w W gy K (.slice none 0 0) [] :=
  ⟨hy, Kd.N_nil _ _ _ _ _, hb, by omega, hok⟩
theorem PlSt.setK {K' : Int} (h : PlSt okt w W gy K v acc) : PlSt okt w (W.setCell ⟨gy, 0, none⟩ (.int .i64 K')) gy K' v acc := by
  have hg := h.hg
  exact ⟨blk_put h.hy 0 _ rfl, Kd.N_far h.hn (fun k hk => by show k ≠ gy; rcases hk with hk | hk; (have := h.hok k hk; omega); exact hk.2) _, h.hb.setCell hg _, hg, h.hok⟩
theorem PlSt.below (h : PlSt okt w W gy K v acc) (hb : Below W.heap.size W W') : PlSt okt w W' gy K v acc :=
  ⟨blk_below h.hy hb, Kd.N_below h.hn hb, h.hb.trans (hb.mono h.hb.size), h.hg, h.hok⟩
theorem PlSt.app (h : PlSt okt w W gy K v acc) (hn : Kd.N (Kd.ct 71 47) 47 W' w.heap.size (fun k => okt k ∨ (w.heap.size ≤ k ∧ k ≠ gy)) v1 acc1) (hg : W.grownBy W' v.ownBlock) : PlSt okt w (W'.setCell ⟨gy, 2, none⟩ v1) gy K v1 acc1 := by
  have hgy := h.hg
  have hr : ∀ k, v.ownBlock = some k → w.heap.size ≤ k ∧ k ≠ gy := fun k hk => ⟨Kd.N_base h.hn k hk, by
    rcases h.hn.1 k hk with h1 | h1
    · have := h.hok k h1; omega
    · exact h1.2⟩
  have nx : some gy ≠ v.ownBlock := fun e => (hr gy e.symm).2 rfl
  have hB : Below w.heap.size w W' := h.hb.trans ⟨hg.os, hg.tape, hg.output, hg.size, fun k hk => hg.block k (by have := h.hb.size; omega) (fun e => by have := (hr k e.symm).1; omega)⟩
  exact ⟨blk_put (blk_grown h.hy hg nx) 2 v1 rfl, Kd.N_far hn (fun k hk => by show k ≠ gy; rcases hk with hk | hk; (have := h.hok k hk; omega); exact hk.2) _, hB.setCell hgy _, hgy, h.hok⟩
theorem PlSt.fin (h : PlSt okt w W gy K v acc) {u : Value} (hu : u = .pointer (some ⟨gy, 0, none⟩)) : PlPost okt w (.node K ⟨#[]⟩ acc) (.returned u) W := by
  obtain ⟨A, cc, rfl⟩ := Kd.N_slice h.hn
  have hr := Kd.N_reads' h.hn
  refine ⟨_, rfl, ?_, h.hb⟩
  rw [hu]
  exact Kd.ct_FK_mk (t := CT.node K ⟨#[]⟩ acc) (.inr h.hg) h.hy hr.2.1 (Kd.F_mono (Kd.N_F h.hn) (fun k hk => hk.imp id (fun h => h.1)))
theorem PlSt.fresh (h : PlSt okt w W gy K v acc) : ∀ k, (okt k ∨ W.heap.size ≤ k) → (okt k ∨ (w.heap.size ≤ k ∧ k ≠ gy)) ∧ some k ≠ v.ownBlock := by
  have h1 := h.hb.size; have h2 := blk_lt h.hy
  intro k hk
  rcases hk with hk | hk
  · exact ⟨.inl hk, fun e => by have := Kd.N_base h.hn k e.symm; have := h.hok k hk; omega⟩
  · exact ⟨.inr ⟨by omega, by omega⟩, fun e => by have := Kd.N_lt h.hn k e.symm; omega⟩
end
section
variable {P : Program} {ops : Array Oper} {rest : List Oper} {o : Oper} {a : Act} {Q : Exit → Act → World → Prop}
theorem lit_event {W : World} (hgd : o.guard = none) {N : Tmp} (_hd : o.dst = some N) {cs : Array Value} {t : TypeId}
    (hrun : (execOp a.eval o).run P W = .ok (.value (.slice (some ⟨W.heap.size, 0, none⟩) cs.size cs.size)) (W.alloc (.cells cs t (0, 0))))
    (h : ∀ g, g = W.heap.size → ∀ w1, w1.heap[g]? = some (.cells cs t (0, 0)) → Below W.heap.size W w1 → wpList P ops Q rest (a.put o.dst (.slice (some ⟨g, 0, none⟩) cs.size cs.size)) w1) : wpList P ops Q (o :: rest) a W :=
  Kd.event_run hgd hrun (h _ rfl _ (blk_new W _) (below_alloc (Below.refl _ _) _))
end
def ct_plain.T21 : Bool × List (List Nat × List Nat) := (true, [([], []), ([], []), ([1], [1]), ([2], [2]), ([3], [3]), ([], []), ([5], [5]), ([6], [6]), ([7], [7]), ([4, 8], [4, 8]), ([0, 0, 1, 2, 3, 4, 5, 6, 7, 8, 9], [0]), ([10, 0, 1, 2, 3, 4, 5, 6, 7, 8, 9], [10]), ([11, 9, 9, 0, 1, 2, 3, 4, 5, 6, 7, 8, 9], [9, 11])])
def ct_plain.B21 : List Nat := [0, 0, 2, 6, 14, 0, 32, 96, 224, 510, 1023, 2047, 4095]
theorem ct_plain.tab21 : rtab .any (opsOf Try.f35 21) = ct_plain.T21 := by kernel_rfl
theorem ct_plain.bits21 : waitsOk ct_plain.T21.2 ct_plain.B21 = true := by kernel_rfl
set_option maxHeartbeats 8000000 in
set_option maxRecDepth 100000 in
theorem ct_plain (k : Nat) : ∀ (t : CT) (vx : Value) (okt : Nat → Prop) (nt : Bool) (r : CT) (w : World), Kd.FK (Kd.ct 71 47) w okt t [vx] → (∀ b, okt b → b < w.heap.size) → ctPlain k t nt = some r →
    Calls Try.prog 35 #[vx, .bool nt] w (PlPost okt w r) := by
  induction k with
  | zero => intro t vx okt nt r w _ _ h; simp [ctPlain] at h
  | succ k ih =>
  intro t vx okt nt r w hF hok h
  rw [ctPlain] at h
  obtain ⟨b, A, c, e_, hb, hn, hk⟩ := Kd.ct_FK hF
  obtain rfl : vx = .pointer (some ⟨b, 0, none⟩) := (by injection e_)
  have kx0_ : w.cell? ⟨b, 0, none⟩ = some (.int .i64 t.kind) := (blk_cell hn.1 0).trans rfl
  have kx2_ : w.cell? ⟨b, 2, none⟩ = some (.slice A t.kids.length c) := (blk_cell hn.1 2).trans rfl
  have HF := Aside0.mk hF; have HOK := Aside0.mk hok; have HN := Aside0.mk hn; have HK := Aside0.mk hk; have HB := Aside0.mk hb
  clear hF hok hn hk hb e_
  by_cases k1 : t.kind = 1
  · rw [if_pos k1] at h
    have k1e : (t.kind == 1) = true := beq_iff_eq.mpr k1
    have k1n : (t.kind != 1) = false := bne_eq_false_iff_eq.mpr k1
    clear k1
    cases nt with
    | false =>
      obtain rfl : t = r := by simpa using h
      clear h
      go_enter Try.func35, Try.ntmps35
      go_wp2
      go_ret
      exact ⟨_, rfl, Kd.FK_mono HF.out (fun k_ hk_ => .inl hk_), Below.refl _ _⟩
    | true =>
      obtain rfl : CT.node 4 ⟨#[]⟩ [t] = r := by simpa using h
      clear h
      go_enter Try.func35, Try.ntmps35
      go_wp2_with (first | ((with_reducible refine gate_dst (N := 17) rfl ?_); refine lit_event ?a1_g (N := 17) ?a1_d (cs := #[.pointer (some ⟨b, 0, none⟩)]) (t := 47) ?a1_r ?_; (case a1_d => rfl); (case a1_g => rfl); (case a1_r => first | (go_simp; done) | (go_simp; rfl) | (go_simp; simp only [i64_w]; done)); intro g1 hg_ w2 hb_ hw_; have BK1 := Aside0.mk hb_; have BL1 := Aside0.mk hw_; have GE1 := Aside0.mk hg_; clear hg_ hb_ hw_) | ((with_reducible refine gate_dst (N := 19) rfl ?_); refine box_event ?a2_g (N := 19) ?a2_d (cs := #[.int .i64 4, .string (⟨#[]⟩ : ByteArray), .slice (some ⟨g1, 0, none⟩) 1 1]) (t := 71) ?a2_r ?_; (case a2_d => rfl); (case a2_g => rfl); (case a2_r => first | (go_simp; done) | (go_simp; rfl) | (go_simp; simp only [i64_w]; done)); intro g2 hg_ w3 hb_ hw_; have BK2 := Aside0.mk hb_; have BL2 := Aside0.mk hw_; have GE2 := Aside0.mk hg_; clear hg_ hb_ hw_))
      go_ret
      exact pl_not HF.out HOK.out BK1.out (by rw [GE1.out]; exact Nat.le_refl _) BL1.out BK2.out (by rw [GE2.out]; exact BL1.out.size) BL2.out rfl
  rw [if_neg k1] at h
  have k1e : (t.kind == 1) = false := beq_eq_false_iff_ne.mpr k1
  have k1n : (t.kind != 1) = true := bne_iff_ne.mpr k1
  by_cases k2 : t.kind = 2
  · rw [if_pos k2] at h
    have k2e : (t.kind == 2) = true := beq_iff_eq.mpr k2
    have k2n : (t.kind != 2) = false := bne_eq_false_iff_eq.mpr k2
    clear k2
    cases nt with
    | false =>
      obtain rfl : t = r := by simpa using h
      clear h
      go_enter Try.func35, Try.ntmps35
      go_wp2
      go_ret
      exact ⟨_, rfl, Kd.FK_mono HF.out (fun k_ hk_ => .inl hk_), Below.refl _ _⟩
    | true =>
      obtain rfl : CT.node (wrap64 (5 - t.kind)) ⟨#[]⟩ [] = r := by simpa using h
      clear h
      go_enter Try.func35, Try.ntmps35
      go_wp2_with (first | ((with_reducible refine gate_dst (N := 31) rfl ?_); refine box_event ?a3_g (N := 31) ?a3_d (cs := #[.int .i64 (wrap64 (5 - t.kind)), .string (⟨#[]⟩ : ByteArray), .slice none 0 0]) (t := 71) ?a3_r ?_; (case a3_d => rfl); (case a3_g => rfl); (case a3_r => first | (go_simp; done) | (go_simp; rfl) | (go_simp; simp only [i64_w]; done)); intro g2 hg_ w3 hb_ hw_; have BK2 := Aside0.mk hb_; have BL2 := Aside0.mk hw_; have GE2 := Aside0.mk hg_; clear hg_ hb_ hw_))
      go_ret
      exact pl_leaf BK2.out (by rw [GE2.out]; exact Nat.le_refl _) BL2.out rfl
  rw [if_neg k2] at h
  have k2e : (t.kind == 2) = false := beq_eq_false_iff_ne.mpr k2
  have k2n : (t.kind != 2) = true := bne_iff_ne.mpr k2
  by_cases k3 : t.kind = 3
  · rw [if_pos k3] at h
    have k3e : (t.kind == 3) = true := beq_iff_eq.mpr k3
    have k3n : (t.kind != 3) = false := bne_eq_false_iff_eq.mpr k3
    clear k3
    cases nt with
    | false =>
      obtain rfl : t = r := by simpa using h
      clear h
      go_enter Try.func35, Try.ntmps35
      go_wp2
      go_ret
      exact ⟨_, rfl, Kd.FK_mono HF.out (fun k_ hk_ => .inl hk_), Below.refl _ _⟩
    | true =>
      obtain rfl : CT.node (wrap64 (5 - t.kind)) ⟨#[]⟩ [] = r := by simpa using h
      clear h
      go_enter Try.func35, Try.ntmps35
      go_wp2_with (first | ((with_reducible refine gate_dst (N := 31) rfl ?_); refine box_event ?a3_g (N := 31) ?a3_d (cs := #[.int .i64 (wrap64 (5 - t.kind)), .string (⟨#[]⟩ : ByteArray), .slice none 0 0]) (t := 71) ?a3_r ?_; (case a3_d => rfl); (case a3_g => rfl); (case a3_r => first | (go_simp; done) | (go_simp; rfl) | (go_simp; simp only [i64_w]; done)); intro g2 hg_ w3 hb_ hw_; have BK2 := Aside0.mk hb_; have BL2 := Aside0.mk hw_; have GE2 := Aside0.mk hg_; clear hg_ hb_ hw_))
      go_ret
      exact pl_leaf BK2.out (by rw [GE2.out]; exact Nat.le_refl _) BL2.out rfl
  rw [if_neg k3] at h
  have k3e : (t.kind == 3) = false := beq_eq_false_iff_ne.mpr k3
  have k3n : (t.kind != 3) = true := bne_iff_ne.mpr k3
  by_cases k4 : t.kind = 4
  · rw [if_pos k4] at h
    have k4e : (t.kind == 4) = true := beq_iff_eq.mpr k4
    have k4n : (t.kind != 4) = false := bne_eq_false_iff_eq.mpr k4
    clear k4
    by_cases h0 : 0 < t.kids.length
    case neg => rw [if_neg h0] at h; simp at h
    rw [if_pos h0] at h
    have E1 := Aside0.mk h
    obtain ⟨ad, v0, rfl, hx, hK0⟩ := ct_kidF HK.out 0 (Int.le_refl _) (by omega)
    rw [show (0 : Int).toNat = 0 from rfl] at hx hK0
    have hy := hx
    rw [Addr.add_zero'] at hy
    have HK0 := Aside0.mk hK0
    have q0 : decide ((0 : Int) < (t.kids.length : Int)) = true := decide_eq_true (by omega)
    have q1 : (0 < t.kids.length) = True := eq_true h0
    clear h hK0 h0
    go_enter Try.func35, Try.ntmps35
    go_wp2_with (first | ((go_at_call 35); (with_reducible refine (ih _ v0 okt (!nt) r _ HK0.out HOK.out E1.out).mono ?_); rintro e_ w3 ⟨v3, rfl, hf_, hb_⟩; have HF3 := Aside0.mk hf_; have HB3 := Aside0.mk hb_; clear hf_ hb_))
    go_ret
    exact ⟨_, rfl, HF3.out, HB3.out⟩
  rw [if_neg k4] at h
  have k4e : (t.kind == 4) = false := beq_eq_false_iff_ne.mpr k4
  have k4n : (t.kind != 4) = true := bne_iff_ne.mpr k4
  obtain ⟨acc, e1, h⟩ := Option.bind_eq_some_iff.mp h
  obtain rfl := Option.some.inj h
  clear h
  clear k1 k2 k3 k4
  cases nt with
  | false =>
    have E1 := Aside0.mk (show plL (fun x => ctPlain k x false) t.kind k t.kids 0 [] = some acc from by simpa using e1)
    clear e1
    show Calls _ _ _ _ (PlPost okt w (.node t.kind ⟨#[]⟩ acc))
    go_enter Try.func35, Try.ntmps35
    go_wp2_with (first | ((with_reducible refine gate_dst (N := 49) rfl ?_); refine box_event ?bf_g (N := 49) ?bf_d (cs := #[.int .i64 t.kind, .string (⟨#[]⟩ : ByteArray), .slice none 0 0]) (t := 71) ?bf_r ?_; (case bf_d => rfl); (case bf_g => rfl); (case bf_r => first | (go_simp; done) | (go_simp; rfl) | (go_simp; simp only [i64_w]; done)); intro gy hg_ w2 hb_ hw_; have HS := Aside0.mk (PlSt.mk0 HOK.out hg_ hb_ hw_); have NB := Aside0.mk (show b ≠ gy from fun e_ => by have h1_ := HOK.out b HB.out; omega); have nb_ := NB.out; have ky0_ : w2.cell? ⟨gy, 0, none⟩ = some (.int .i64 t.kind) := (blk_cell HS.out.hy 0).trans rfl; have kf_ : w2.frozen? ⟨gy, 0, none⟩ = false := blk_frozen HS.out.hy 0; clear kx0_ kx2_; have kx0_ : w2.cell? ⟨b, 0, none⟩ = some (.int .i64 t.kind) := (blk_cell (blk_below HN.out.1 HS.out.hb) 0).trans rfl; have kx2_ : w2.cell? ⟨b, 2, none⟩ = some (.slice A t.kids.length c) := (blk_cell (blk_below HN.out.1 HS.out.hb) 2).trans rfl; clear hg_ hb_ hw_))
    go_loopg [7, 8, 64] k (fun kq v7 v8 v64 W' => ∃ (i : Int) (v : Value) (ac : List CT), v64 = .int .i64 i ∧ Aside0 (plL (fun x => ctPlain k x false) t.kind kq t.kids i ac = some acc) ∧ Aside0 (kq ≤ k) ∧ Aside0 (PlSt okt w W' gy t.kind v ac))
    case atStart => exact ⟨_, _, _, rfl, E1, ⟨Nat.le_refl _⟩, HS⟩
    case round =>
      clear E1 HS
      (try clear kx0_ kx2_ ky0_ kf_)
      obtain ⟨i, v, ac, rfl, HE, HKq, HS⟩ := hrel
      cases gk with
      | zero => exact absurd HE.out (by simp [plL])
      | succ kq =>
        have h := HE.out
        clear HE
        unfold plL at h
        by_cases c6 : i < (t.kids.length : Int)
        · rw [if_pos c6] at h
          have b6 : decide (i < (t.kids.length : Int)) = true := decide_eq_true c6
          by_cases c7 : 0 ≤ i
          case neg => rw [if_neg c7] at h; simp at h
          rw [if_pos c7] at h
          obtain ⟨p, e2, h⟩ := Option.bind_eq_some_iff.mp h
          obtain ⟨ad, v0, rfl, hx, hK0⟩ := ct_kidF (Foot.step HK.out (fun k_ hk_ _ => HS.out.hb.block k_ (HOK.out k_ hk_))) i c7 c6
          have HKF := Aside0.mk hK0; have E2 := Aside0.mk e2; have p7 := eq_true c7; have q7 := eq_true c6
          clear hK0 c6 c7 e2
          by_cases c8 : p.kind = t.kind
          · rw [if_pos c8] at h
            by_cases c9 : ac.length + p.kids.length < 1000000
            case neg => rw [if_neg c9] at h; simp at h
            rw [if_pos c9] at h
            have H := Aside0.mk h; have HL := Aside0.mk c9; have b8 : (p.kind == t.kind) = true := beq_iff_eq.mpr c8
            clear h c9 c8
            go_wp2_with (first | ((go_at_call 35); (with_reducible refine (ih _ v0 okt false p _ HKF.out (fun b_ hb_ => Nat.lt_of_lt_of_le (HOK.out b_ hb_) HS.out.hb.size) E2.out).mono ?_); rintro e_ w4 ⟨v4, rfl, hf_, hb_⟩; have HFR := Aside0.mk HS.out.fresh; have HFP := Aside0.mk hf_; have HS2 := Aside0.mk (HS.out.below hb_); clear hf_ hb_ HS HKF; have HS := HS2; clear HS2; obtain ⟨b4, A4, c4, e4_, hob4_, hn4_, hk4_⟩ := Kd.ct_FK HFP.out; have HO4 := Aside0.mk (HFR.out b4 hob4_).2; obtain rfl : v4 = .pointer (some ⟨b4, 0, none⟩) := (by injection e4_); have HK4 := Aside0.mk hk4_; have HN4 := Aside0.mk hn4_; clear e4_ hk4_ hn4_ hob4_; have kp0_ : w4.cell? ⟨b4, 0, none⟩ = some (.int .i64 p.kind) := (blk_cell HN4.out.1 0).trans rfl; have kp2_ : w4.cell? ⟨b4, 2, none⟩ = some (.slice A4 p.kids.length c4) := (blk_cell HN4.out.1 2).trans rfl; have ky0_ : w4.cell? ⟨gy, 0, none⟩ = some (.int .i64 t.kind) := (blk_cell HS.out.hy 0).trans rfl; have ky2_ : w4.cell? ⟨gy, 2, none⟩ = some v := (blk_cell HS.out.hy 2).trans rfl))
            go_quiet (fail)
            go_wp2
            have hbd_ := below_drew (pw_below_drewN (Below.refl w4.heap.size w4) nq)
            have HS5 := Aside0.mk (HS.out.below hbd_)
            have HK5 := Aside0.mk (Kd.F_below HK4.out hbd_)
            have HN5 := Aside0.mk (blk_below HN4.out.1 hbd_)
            clear hbd_ HS HK4
            refine start_ (n := 13) (S := fun w' => w'.cell? ⟨gy, 2, none⟩ = some v ∧ w'.cell? ⟨b4, 2, none⟩ = some (.slice A4 p.kids.length c4)) (ds := [12]) #[false, false, false, false, false, false, false, false, false, false, false, false, false] (by kernel_rfl) rfl rfl ⟨ky2_, kp2_⟩ (fun hHeld => ?_); refine with_tabW ct_plain.tab21 ct_plain.bits21 (fun HT_ HW_ => ?_)
            generalize (w4.drewN nq).drew = w5 at HS5 HK5 HN5 hHeld ⊢
            refine pure_ (i := 0) (N := some 80) (v := ?_) (a' := ?_) #[true, false, false, false, false, false, false, false, false, false, false, false, false] rfl rfl (any_of HT_.out (by kernel_rfl)) (fun _ _ _ h => h) (Or.inl ⟨by rfl, ?_⟩) ?_ ?_
            rotate_left
            · intro w'
              go_simp
              with_reducible rfl
            rotate_left
            · simp only [Act.put, List.setIfInBounds_toArray, List.set_cons_zero, List.set_cons_succ, i64_w, i32_w]
              rfl
            refine pure_ (i := 1) (N := some 81) (v := ?_) (a' := ?_) #[true, true, false, false, false, false, false, false, false, false, false, false, false] rfl rfl (any_of HT_.out (by kernel_rfl)) (fun _ _ _ h => h) (Or.inl ⟨by rfl, ?_⟩) ?_ ?_
            rotate_left
            · intro w'
              go_simp
              with_reducible rfl
            rotate_left
            · simp only [Act.put, List.setIfInBounds_toArray, List.set_cons_zero, List.set_cons_succ, i64_w, i32_w]
              rfl
            refine pure_ (i := 2) (N := some 82) (v := ?_) (a' := ?_) #[true, true, true, false, false, false, false, false, false, false, false, false, false] rfl rfl (any_of HT_.out (by kernel_rfl)) (fun _ _ _ h => h) (Or.inl ⟨by rfl, ?_⟩) ?_ ?_
            rotate_left
            · intro w'
              go_simp
              with_reducible rfl
            rotate_left
            · simp only [Act.put, List.setIfInBounds_toArray, List.set_cons_zero, List.set_cons_succ, i64_w, i32_w]
              rfl
            refine pure_ (i := 3) (N := some 83) (v := ?_) (a' := ?_) #[true, true, true, true, false, false, false, false, false, false, false, false, false] rfl rfl (any_of HT_.out (by kernel_rfl)) (fun _ _ _ h => h) (Or.inl ⟨by rfl, ?_⟩) ?_ ?_
            rotate_left
            · intro w'
              go_simp
              with_reducible rfl
            rotate_left
            · simp only [Act.put, List.setIfInBounds_toArray, List.set_cons_zero, List.set_cons_succ, i64_w, i32_w]
              rfl
            refine pure_ (i := 5) (N := some 85) (v := ?_) (a' := ?_) #[true, true, true, true, false, true, false, false, false, false, false, false, false] rfl rfl (any_of HT_.out (by kernel_rfl)) (fun _ _ _ h => h) (Or.inl ⟨by rfl, ?_⟩) ?_ ?_
            rotate_left
            · intro w'
              go_simp
              with_reducible rfl
            rotate_left
            · simp only [Act.put, List.setIfInBounds_toArray, List.set_cons_zero, List.set_cons_succ, i64_w, i32_w]
              rfl
            refine pure_ (i := 6) (N := some 86) (v := ?_) (a' := ?_) #[true, true, true, true, false, true, true, false, false, false, false, false, false] rfl rfl (any_of HT_.out (by kernel_rfl)) (fun _ _ _ h => h) (Or.inl ⟨by rfl, ?_⟩) ?_ ?_
            rotate_left
            · intro w'
              go_simp
              with_reducible rfl
            rotate_left
            · simp only [Act.put, List.setIfInBounds_toArray, List.set_cons_zero, List.set_cons_succ, i64_w, i32_w]
              rfl
            refine pure_ (i := 7) (N := some 87) (v := ?_) (a' := ?_) #[true, true, true, true, false, true, true, true, false, false, false, false, false] rfl rfl (any_of HT_.out (by kernel_rfl)) (fun _ _ _ h => h) (Or.inl ⟨by rfl, ?_⟩) ?_ ?_
            rotate_left
            · intro w'
              go_simp
              with_reducible rfl
            rotate_left
            · simp only [Act.put, List.setIfInBounds_toArray, List.set_cons_zero, List.set_cons_succ, i64_w, i32_w]
              rfl
            refine take_ (i := 4) (N := some 84) (v := ?_) (a' := ?_) #[true, true, true, true, true, true, true, true, false, false, false, false, false] rfl rfl (take_ofW HT_.out HW_.out (by kernel_rfl)) (fun _ _ _ h => h) (Or.inl ⟨by rfl, ?_⟩) hHeld ?_ ?_
            rotate_left
            · rintro w' ⟨s0, s1⟩
              go_simp
              with_reducible rfl
            rotate_left
            · simp only [Act.put, List.setIfInBounds_toArray, List.set_cons_zero, List.set_cons_succ, i64_w, i32_w]
              rfl
            refine take_ (i := 8) (N := some 88) (v := ?_) (a' := ?_) #[true, true, true, true, true, true, true, true, true, false, false, false, false] rfl rfl (take_ofW HT_.out HW_.out (by kernel_rfl)) (fun _ _ _ h => h) (Or.inl ⟨by rfl, ?_⟩) hHeld ?_ ?_
            rotate_left
            · rintro w' ⟨s0, s1⟩
              go_simp
              with_reducible rfl
            rotate_left
            · simp only [Act.put, List.setIfInBounds_toArray, List.set_cons_zero, List.set_cons_succ, i64_w, i32_w]
              rfl
            refine one_ (i := 9) (N := some 89) #[true, true, true, true, true, true, true, true, true, true, false, false, false] rfl rfl (one_of HT_.out (by kernel_rfl)) (by decide) (fun K hK => ?_)
            refine Kd.N_append_rows_step (Kd.ct 71 47) (w0 := w5) w.heap.size (by rfl) (.tmp 84) (.tmp 88) 69 47 (.pointer none) 8 rfl Try.underlying69 ?ap_i rfl (by decide) (by decide) v ac p.kids A4 p.kids.length c4 (fun k => okt k ∨ (w.heap.size ≤ k ∧ k ≠ gy)) _ ?ap_s ?ap_x HS5.out.hn HK5.out HFR.out ?ap_f (Below.refl _ _) ?ap_b ?ap_l ?_
            (case ap_i => first | rfl | kernel_rfl)
            (case ap_s => rfl)
            (case ap_x => rfl)
            (case ap_f => intro k_ hk_; have h1_ := blk_lt HS5.out.hy; have h2_ := HS5.out.hb.size; exact .inr ⟨by omega, by omega⟩)
            (case ap_b => exact HS5.out.hb.size)
            (case ap_l => have h1_ := HL.out; omega)
            intro v7 w7 hn7_ hb7_ hg7_ hat7_
            obtain ⟨A7_, c7_, ev7_⟩ := Kd.N_slice hn7_
            subst ev7_
            have hy7_ := blk_grown HS5.out.hy hg7_ (fun e_ => (HS5.out.hn.1 gy e_.symm).elim (fun h_ => absurd (HS5.out.hok gy h_) (Nat.not_lt.mpr HS5.out.hg)) (fun h_ => h_.2 rfl))
            have hn7b_ := blk_grown HN5.out hg7_ HO4.out
            have HS7 := Aside0.mk (HS5.out.app hn7_ hg7_)
            clear hn7_ hb7_ hg7_ hat7_
            (try clear kp0_ kp2_ ky0_ ky2_)
            have ky2_ : w7.cell? ⟨gy, 2, none⟩ = some v := (blk_cell hy7_ 2).trans rfl
            have kfz_ : w7.frozen? ⟨gy, 2, none⟩ = false := blk_frozen hy7_ 2
            refine hK.out _ _ ⟨ky2_, (blk_cell hn7b_ 2).trans rfl⟩ (fun hHeld => ?_)
            clear hy7_ hn7b_
            clear hK K
            refine norm_ (a' := ?_) ?_ ?_
            rotate_left
            · show Act.put _ (some 89) _ = _
              simp only [Act.put, List.setIfInBounds_toArray, List.set_cons_zero, List.set_cons_succ, i64_w, i32_w]
              rfl
            refine pure_ (i := 10) (N := some 90) (v := ?_) (a' := ?_) #[true, true, true, true, true, true, true, true, true, true, true, false, false] rfl rfl (any_of HT_.out (by kernel_rfl)) (fun _ _ _ h => h) (Or.inl ⟨by rfl, ?_⟩) ?_ ?_
            rotate_left
            · intro w'
              go_simp
              with_reducible rfl
            rotate_left
            · simp only [Act.put, List.setIfInBounds_toArray, List.set_cons_zero, List.set_cons_succ, i64_w, i32_w]
              rfl
            refine pure_ (i := 11) (N := some 91) (v := ?_) (a' := ?_) #[true, true, true, true, true, true, true, true, true, true, true, true, false] rfl rfl (any_of HT_.out (by kernel_rfl)) (fun _ _ _ h => h) (Or.inl ⟨by rfl, ?_⟩) ?_ ?_
            rotate_left
            · intro w'
              go_simp
              with_reducible rfl
            rotate_left
            · simp only [Act.put, List.setIfInBounds_toArray, List.set_cons_zero, List.set_cons_succ, i64_w, i32_w]
              rfl
            refine last_ (i := 12) (N := none) #[true, true, true, true, true, true, true, true, true, true, true, true, true] rfl rfl (one_of HT_.out (by kernel_rfl)) (by decide) (fun K hK => ?_)
            refine skip_ (w1 := ?_) (by rfl) rfl ?_ ?_
            rotate_left
            · go_simp
              rfl
            refine hK.out _ _ ?_
            clear hK K
            refine done_ (done_of HT_.out (by kernel_rfl)) ?_
            go_wp2
            go_roundg kq
            case measure => have := HKq.out; omega
            case rel => exact ⟨_, _, _, rfl, H, ⟨by have := HKq.out; omega⟩, ⟨by have hs_ := HS7.out; (try rw [List.length_append] at hs_); (try rw [List.length_singleton] at hs_); exact hs_⟩⟩
          · rw [if_neg c8] at h
            by_cases c9 : ac.length < 1000000
            case neg => rw [if_neg c9] at h; simp at h
            rw [if_pos c9] at h
            have H := Aside0.mk h; have HL := Aside0.mk c9; have b8 : (p.kind == t.kind) = false := beq_eq_false_iff_ne.mpr c8
            clear h c9 c8
            go_wp2_with (first | ((go_at_call 35); (with_reducible refine (ih _ v0 okt false p _ HKF.out (fun b_ hb_ => Nat.lt_of_lt_of_le (HOK.out b_ hb_) HS.out.hb.size) E2.out).mono ?_); rintro e_ w4 ⟨v4, rfl, hf_, hb_⟩; have HFR := Aside0.mk HS.out.fresh; have HFP := Aside0.mk hf_; have HS2 := Aside0.mk (HS.out.below hb_); clear hf_ hb_ HS HKF; have HS := HS2; clear HS2; obtain ⟨b4, A4, c4, e4_, hob4_, hn4_, hk4_⟩ := Kd.ct_FK HFP.out; have HO4 := Aside0.mk (HFR.out b4 hob4_).2; obtain rfl : v4 = .pointer (some ⟨b4, 0, none⟩) := (by injection e4_); have HK4 := Aside0.mk hk4_; have HN4 := Aside0.mk hn4_; clear e4_ hk4_ hn4_ hob4_; have kp0_ : w4.cell? ⟨b4, 0, none⟩ = some (.int .i64 p.kind) := (blk_cell HN4.out.1 0).trans rfl; have kp2_ : w4.cell? ⟨b4, 2, none⟩ = some (.slice A4 p.kids.length c4) := (blk_cell HN4.out.1 2).trans rfl; have ky0_ : w4.cell? ⟨gy, 0, none⟩ = some (.int .i64 t.kind) := (blk_cell HS.out.hy 0).trans rfl; have ky2_ : w4.cell? ⟨gy, 2, none⟩ = some v := (blk_cell HS.out.hy 2).trans rfl))
            go_quiet (fail)
            have HS5 := Aside0.mk (HS.out.below (W' := w4.drewN nq) (pw_below_drewN (Below.refl _ _) _)); have HFP2 := Aside0.mk (Foot.step (W1 := w4.drewN nq) HFP.out (fun k_ _ _ => rfl))
            clear HS HFP
            go_wp2_with (first | ((with_reducible refine gate_builtin (b := .append) (xs := #[.tmp 96, .tmp 98]) (ts := #[69, 69]) rfl ?_); at_builtin; refine Kd.N_append (Kd.ct 71 47) (w0 := w4.drewN nq) w.heap.size rfl (.tmp 96) (.tmp 98) 69 47 (.pointer none) 8 rfl Try.underlying69 ?ap_i rfl (by decide) (by decide) v ac p [.pointer (some ⟨b4, 0, none⟩)] (fun k => okt k ∨ (w.heap.size ≤ k ∧ k ≠ gy)) _ ?ap_s ?ap_x HFP2.out HFR.out ?ap_f HS5.out.hn (Below.refl _ _) ?ap_b ?ap_l ?_; (case ap_i => first | rfl | kernel_rfl); (case ap_s => rfl); (case ap_x => rfl); (case ap_f => intro k_ hk_; have h1_ := blk_lt HS5.out.hy; have h2_ := HS5.out.hb.size; exact .inr ⟨by omega, by omega⟩); (case ap_b => exact HS5.out.hb.size); (case ap_l => have h1_ := HL.out; omega); intro v7 w7 hn7_ hb7_ hg7_ hat7_; obtain ⟨A7_, c7_, ev7_⟩ := Kd.N_slice hn7_; subst ev7_; have hy7_ := blk_grown HS5.out.hy hg7_ (fun e_ => (HS5.out.hn.1 gy e_.symm).elim (fun h_ => absurd (HS5.out.hok gy h_) (Nat.not_lt.mpr HS5.out.hg)) (fun h_ => h_.2 rfl)); have HS7 := Aside0.mk (HS5.out.app hn7_ hg7_); clear hn7_ hb7_ hg7_ hat7_; (try clear kp0_ kp2_ ky0_ ky2_); have ky2_ : w7.cell? ⟨gy, 2, none⟩ = some v := (blk_cell hy7_ 2).trans rfl; have kfz_ : w7.frozen? ⟨gy, 2, none⟩ = false := blk_frozen hy7_ 2; clear hy7_))
            go_roundg kq
            case measure => have := HKq.out; omega
            case rel => exact ⟨_, _, _, rfl, H, ⟨by have := HKq.out; omega⟩, ⟨by have hs_ := HS7.out; (try rw [List.length_append] at hs_); (try rw [List.length_singleton] at hs_); exact hs_⟩⟩
        · rw [if_neg c6] at h
          have b6 : decide (i < (t.kids.length : Int)) = false := decide_eq_false c6
          obtain rfl := Option.some.inj h
          clear h c6
          go_wp2
          go_ret
          exact HS.out.fin rfl
  | true =>
    have E1 := Aside0.mk (show plL (fun x => ctPlain k x true) (wrap64 (11 - t.kind)) k t.kids 0 [] = some acc from by simpa using e1)
    clear e1
    show Calls _ _ _ _ (PlPost okt w (.node (wrap64 (11 - t.kind)) ⟨#[]⟩ acc))
    go_enter Try.func35, Try.ntmps35
    go_wp2_with (first | ((with_reducible refine gate_dst (N := 49) rfl ?_); refine box_event ?bt_g (N := 49) ?bt_d (cs := #[.int .i64 t.kind, .string (⟨#[]⟩ : ByteArray), .slice none 0 0]) (t := 71) ?bt_r ?_; (case bt_d => rfl); (case bt_g => rfl); (case bt_r => first | (go_simp; done) | (go_simp; rfl) | (go_simp; simp only [i64_w]; done)); intro gy hg_ w2 hb_ hw_; have HS := Aside0.mk (PlSt.mk0 HOK.out hg_ hb_ hw_); have NB := Aside0.mk (show b ≠ gy from fun e_ => by have h1_ := HOK.out b HB.out; omega); have nb_ := NB.out; have ky0_ : w2.cell? ⟨gy, 0, none⟩ = some (.int .i64 t.kind) := (blk_cell HS.out.hy 0).trans rfl; have kf_ : w2.frozen? ⟨gy, 0, none⟩ = false := blk_frozen HS.out.hy 0; clear kx0_ kx2_; have kx0_ : w2.cell? ⟨b, 0, none⟩ = some (.int .i64 t.kind) := (blk_cell (blk_below HN.out.1 HS.out.hb) 0).trans rfl; have kx2_ : w2.cell? ⟨b, 2, none⟩ = some (.slice A t.kids.length c) := (blk_cell (blk_below HN.out.1 HS.out.hb) 2).trans rfl; clear hg_ hb_ hw_))
    have HS2 := Aside0.mk (HS.out.setK (K' := (wrap64 (11 - t.kind)))); clear HS; have HS := HS2; clear HS2
    go_loopg [7, 8, 64] k (fun kq v7 v8 v64 W' => ∃ (i : Int) (v : Value) (ac : List CT), v64 = .int .i64 i ∧ Aside0 (plL (fun x => ctPlain k x true) (wrap64 (11 - t.kind)) kq t.kids i ac = some acc) ∧ Aside0 (kq ≤ k) ∧ Aside0 (PlSt okt w W' gy (wrap64 (11 - t.kind)) v ac))
    case atStart => exact ⟨_, _, _, rfl, E1, ⟨Nat.le_refl _⟩, HS⟩
    case round =>
      clear E1 HS
      (try clear kx0_ kx2_ ky0_ kf_)
      obtain ⟨i, v, ac, rfl, HE, HKq, HS⟩ := hrel
      cases gk with
      | zero => exact absurd HE.out (by simp [plL])
      | succ kq =>
        have h := HE.out
        clear HE
        unfold plL at h
        by_cases c6 : i < (t.kids.length : Int)
        · rw [if_pos c6] at h
          have b6 : decide (i < (t.kids.length : Int)) = true := decide_eq_true c6
          by_cases c7 : 0 ≤ i
          case neg => rw [if_neg c7] at h; simp at h
          rw [if_pos c7] at h
          obtain ⟨p, e2, h⟩ := Option.bind_eq_some_iff.mp h
          obtain ⟨ad, v0, rfl, hx, hK0⟩ := ct_kidF (Foot.step HK.out (fun k_ hk_ _ => HS.out.hb.block k_ (HOK.out k_ hk_))) i c7 c6
          have HKF := Aside0.mk hK0; have E2 := Aside0.mk e2; have p7 := eq_true c7; have q7 := eq_true c6
          clear hK0 c6 c7 e2
          by_cases c8 : p.kind = (wrap64 (11 - t.kind))
          · rw [if_pos c8] at h
            by_cases c9 : ac.length + p.kids.length < 1000000
            case neg => rw [if_neg c9] at h; simp at h
            rw [if_pos c9] at h
            have H := Aside0.mk h; have HL := Aside0.mk c9; have b8 : (p.kind == (wrap64 (11 - t.kind))) = true := beq_iff_eq.mpr c8
            clear h c9 c8
            go_wp2_with (first | ((go_at_call 35); (with_reducible refine (ih _ v0 okt true p _ HKF.out (fun b_ hb_ => Nat.lt_of_lt_of_le (HOK.out b_ hb_) HS.out.hb.size) E2.out).mono ?_); rintro e_ w4 ⟨v4, rfl, hf_, hb_⟩; have HFR := Aside0.mk HS.out.fresh; have HFP := Aside0.mk hf_; have HS2 := Aside0.mk (HS.out.below hb_); clear hf_ hb_ HS HKF; have HS := HS2; clear HS2; obtain ⟨b4, A4, c4, e4_, hob4_, hn4_, hk4_⟩ := Kd.ct_FK HFP.out; have HO4 := Aside0.mk (HFR.out b4 hob4_).2; obtain rfl : v4 = .pointer (some ⟨b4, 0, none⟩) := (by injection e4_); have HK4 := Aside0.mk hk4_; have HN4 := Aside0.mk hn4_; clear e4_ hk4_ hn4_ hob4_; have kp0_ : w4.cell? ⟨b4, 0, none⟩ = some (.int .i64 p.kind) := (blk_cell HN4.out.1 0).trans rfl; have kp2_ : w4.cell? ⟨b4, 2, none⟩ = some (.slice A4 p.kids.length c4) := (blk_cell HN4.out.1 2).trans rfl; have ky0_ : w4.cell? ⟨gy, 0, none⟩ = some (.int .i64 (wrap64 (11 - t.kind))) := (blk_cell HS.out.hy 0).trans rfl; have ky2_ : w4.cell? ⟨gy, 2, none⟩ = some v := (blk_cell HS.out.hy 2).trans rfl))
            go_quiet (fail)
            go_wp2
            have hbd_ := below_drew (pw_below_drewN (Below.refl w4.heap.size w4) nq)
            have HS5 := Aside0.mk (HS.out.below hbd_)
            have HK5 := Aside0.mk (Kd.F_below HK4.out hbd_)
            have HN5 := Aside0.mk (blk_below HN4.out.1 hbd_)
            clear hbd_ HS HK4
            refine start_ (n := 13) (S := fun w' => w'.cell? ⟨gy, 2, none⟩ = some v ∧ w'.cell? ⟨b4, 2, none⟩ = some (.slice A4 p.kids.length c4)) (ds := [12]) #[false, false, false, false, false, false, false, false, false, false, false, false, false] (by kernel_rfl) rfl rfl ⟨ky2_, kp2_⟩ (fun hHeld => ?_); refine with_tabW ct_plain.tab21 ct_plain.bits21 (fun HT_ HW_ => ?_)
            generalize (w4.drewN nq).drew = w5 at HS5 HK5 HN5 hHeld ⊢
            refine pure_ (i := 0) (N := some 80) (v := ?_) (a' := ?_) #[true, false, false, false, false, false, false, false, false, false, false, false, false] rfl rfl (any_of HT_.out (by kernel_rfl)) (fun _ _ _ h => h) (Or.inl ⟨by rfl, ?_⟩) ?_ ?_
            rotate_left
            · intro w'
              go_simp
              with_reducible rfl
            rotate_left
            · simp only [Act.put, List.setIfInBounds_toArray, List.set_cons_zero, List.set_cons_succ, i64_w, i32_w]
              rfl
            refine pure_ (i := 1) (N := some 81) (v := ?_) (a' := ?_) #[true, true, false, false, false, false, false, false, false, false, false, false, false] rfl rfl (any_of HT_.out (by kernel_rfl)) (fun _ _ _ h => h) (Or.inl ⟨by rfl, ?_⟩) ?_ ?_
            rotate_left
            · intro w'
              go_simp
              with_reducible rfl
            rotate_left
            · simp only [Act.put, List.setIfInBounds_toArray, List.set_cons_zero, List.set_cons_succ, i64_w, i32_w]
              rfl
            refine pure_ (i := 2) (N := some 82) (v := ?_) (a' := ?_) #[true, true, true, false, false, false, false, false, false, false, false, false, false] rfl rfl (any_of HT_.out (by kernel_rfl)) (fun _ _ _ h => h) (Or.inl ⟨by rfl, ?_⟩) ?_ ?_
            rotate_left
            · intro w'
              go_simp
              with_reducible rfl
            rotate_left
            · simp only [Act.put, List.setIfInBounds_toArray, List.set_cons_zero, List.set_cons_succ, i64_w, i32_w]
              rfl
            refine pure_ (i := 3) (N := some 83) (v := ?_) (a' := ?_) #[true, true, true, true, false, false, false, false, false, false, false, false, false] rfl rfl (any_of HT_.out (by kernel_rfl)) (fun _ _ _ h => h) (Or.inl ⟨by rfl, ?_⟩) ?_ ?_
            rotate_left
            · intro w'
              go_simp
              with_reducible rfl
            rotate_left
            · simp only [Act.put, List.setIfInBounds_toArray, List.set_cons_zero, List.set_cons_succ, i64_w, i32_w]
              rfl
            refine pure_ (i := 5) (N := some 85) (v := ?_) (a' := ?_) #[true, true, true, true, false, true, false, false, false, false, false, false, false] rfl rfl (any_of HT_.out (by kernel_rfl)) (fun _ _ _ h => h) (Or.inl ⟨by rfl, ?_⟩) ?_ ?_
            rotate_left
            · intro w'
              go_simp
              with_reducible rfl
            rotate_left
            · simp only [Act.put, List.setIfInBounds_toArray, List.set_cons_zero, List.set_cons_succ, i64_w, i32_w]
              rfl
            refine pure_ (i := 6) (N := some 86) (v := ?_) (a' := ?_) #[true, true, true, true, false, true, true, false, false, false, false, false, false] rfl rfl (any_of HT_.out (by kernel_rfl)) (fun _ _ _ h => h) (Or.inl ⟨by rfl, ?_⟩) ?_ ?_
            rotate_left
            · intro w'
              go_simp
              with_reducible rfl
            rotate_left
            · simp only [Act.put, List.setIfInBounds_toArray, List.set_cons_zero, List.set_cons_succ, i64_w, i32_w]
              rfl
            refine pure_ (i := 7) (N := some 87) (v := ?_) (a' := ?_) #[true, true, true, true, false, true, true, true, false, false, false, false, false] rfl rfl (any_of HT_.out (by kernel_rfl)) (fun _ _ _ h => h) (Or.inl ⟨by rfl, ?_⟩) ?_ ?_
            rotate_left
            · intro w'
              go_simp
              with_reducible rfl
            rotate_left
            · simp only [Act.put, List.setIfInBounds_toArray, List.set_cons_zero, List.set_cons_succ, i64_w, i32_w]
              rfl
            refine take_ (i := 4) (N := some 84) (v := ?_) (a' := ?_) #[true, true, true, true, true, true, true, true, false, false, false, false, false] rfl rfl (take_ofW HT_.out HW_.out (by kernel_rfl)) (fun _ _ _ h => h) (Or.inl ⟨by rfl, ?_⟩) hHeld ?_ ?_
            rotate_left
            · rintro w' ⟨s0, s1⟩
              go_simp
              with_reducible rfl
            rotate_left
            · simp only [Act.put, List.setIfInBounds_toArray, List.set_cons_zero, List.set_cons_succ, i64_w, i32_w]
              rfl
            refine take_ (i := 8) (N := some 88) (v := ?_) (a' := ?_) #[true, true, true, true, true, true, true, true, true, false, false, false, false] rfl rfl (take_ofW HT_.out HW_.out (by kernel_rfl)) (fun _ _ _ h => h) (Or.inl ⟨by rfl, ?_⟩) hHeld ?_ ?_
            rotate_left
            · rintro w' ⟨s0, s1⟩
              go_simp
              with_reducible rfl
            rotate_left
            · simp only [Act.put, List.setIfInBounds_toArray, List.set_cons_zero, List.set_cons_succ, i64_w, i32_w]
              rfl
            refine one_ (i := 9) (N := some 89) #[true, true, true, true, true, true, true, true, true, true, false, false, false] rfl rfl (one_of HT_.out (by kernel_rfl)) (by decide) (fun K hK => ?_)
            refine Kd.N_append_rows_step (Kd.ct 71 47) (w0 := w5) w.heap.size (by rfl) (.tmp 84) (.tmp 88) 69 47 (.pointer none) 8 rfl Try.underlying69 ?ap_i rfl (by decide) (by decide) v ac p.kids A4 p.kids.length c4 (fun k => okt k ∨ (w.heap.size ≤ k ∧ k ≠ gy)) _ ?ap_s ?ap_x HS5.out.hn HK5.out HFR.out ?ap_f (Below.refl _ _) ?ap_b ?ap_l ?_
            (case ap_i => first | rfl | kernel_rfl)
            (case ap_s => rfl)
            (case ap_x => rfl)
            (case ap_f => intro k_ hk_; have h1_ := blk_lt HS5.out.hy; have h2_ := HS5.out.hb.size; exact .inr ⟨by omega, by omega⟩)
            (case ap_b => exact HS5.out.hb.size)
            (case ap_l => have h1_ := HL.out; omega)
            intro v7 w7 hn7_ hb7_ hg7_ hat7_
            obtain ⟨A7_, c7_, ev7_⟩ := Kd.N_slice hn7_
            subst ev7_
            have hy7_ := blk_grown HS5.out.hy hg7_ (fun e_ => (HS5.out.hn.1 gy e_.symm).elim (fun h_ => absurd (HS5.out.hok gy h_) (Nat.not_lt.mpr HS5.out.hg)) (fun h_ => h_.2 rfl))
            have hn7b_ := blk_grown HN5.out hg7_ HO4.out
            have HS7 := Aside0.mk (HS5.out.app hn7_ hg7_)
            clear hn7_ hb7_ hg7_ hat7_
            (try clear kp0_ kp2_ ky0_ ky2_)
            have ky2_ : w7.cell? ⟨gy, 2, none⟩ = some v := (blk_cell hy7_ 2).trans rfl
            have kfz_ : w7.frozen? ⟨gy, 2, none⟩ = false := blk_frozen hy7_ 2
            refine hK.out _ _ ⟨ky2_, (blk_cell hn7b_ 2).trans rfl⟩ (fun hHeld => ?_)
            clear hy7_ hn7b_
            clear hK K
            refine norm_ (a' := ?_) ?_ ?_
            rotate_left
            · show Act.put _ (some 89) _ = _
              simp only [Act.put, List.setIfInBounds_toArray, List.set_cons_zero, List.set_cons_succ, i64_w, i32_w]
              rfl
            refine pure_ (i := 10) (N := some 90) (v := ?_) (a' := ?_) #[true, true, true, true, true, true, true, true, true, true, true, false, false] rfl rfl (any_of HT_.out (by kernel_rfl)) (fun _ _ _ h => h) (Or.inl ⟨by rfl, ?_⟩) ?_ ?_
            rotate_left
            · intro w'
              go_simp
              with_reducible rfl
            rotate_left
            · simp only [Act.put, List.setIfInBounds_toArray, List.set_cons_zero, List.set_cons_succ, i64_w, i32_w]
              rfl
            refine pure_ (i := 11) (N := some 91) (v := ?_) (a' := ?_) #[true, true, true, true, true, true, true, true, true, true, true, true, false] rfl rfl (any_of HT_.out (by kernel_rfl)) (fun _ _ _ h => h) (Or.inl ⟨by rfl, ?_⟩) ?_ ?_
            rotate_left
            · intro w'
              go_simp
              with_reducible rfl
            rotate_left
            · simp only [Act.put, List.setIfInBounds_toArray, List.set_cons_zero, List.set_cons_succ, i64_w, i32_w]
              rfl
            refine last_ (i := 12) (N := none) #[true, true, true, true, true, true, true, true, true, true, true, true, true] rfl rfl (one_of HT_.out (by kernel_rfl)) (by decide) (fun K hK => ?_)
            refine skip_ (w1 := ?_) (by rfl) rfl ?_ ?_
            rotate_left
            · go_simp
              rfl
            refine hK.out _ _ ?_
            clear hK K
            refine done_ (done_of HT_.out (by kernel_rfl)) ?_
            go_wp2
            go_roundg kq
            case measure => have := HKq.out; omega
            case rel => exact ⟨_, _, _, rfl, H, ⟨by have := HKq.out; omega⟩, ⟨by have hs_ := HS7.out; (try rw [List.length_append] at hs_); (try rw [List.length_singleton] at hs_); exact hs_⟩⟩
          · rw [if_neg c8] at h
            by_cases c9 : ac.length < 1000000
            case neg => rw [if_neg c9] at h; simp at h
            rw [if_pos c9] at h
            have H := Aside0.mk h; have HL := Aside0.mk c9; have b8 : (p.kind == (wrap64 (11 - t.kind))) = false := beq_eq_false_iff_ne.mpr c8
            clear h c9 c8
            go_wp2_with (first | ((go_at_call 35); (with_reducible refine (ih _ v0 okt true p _ HKF.out (fun b_ hb_ => Nat.lt_of_lt_of_le (HOK.out b_ hb_) HS.out.hb.size) E2.out).mono ?_); rintro e_ w4 ⟨v4, rfl, hf_, hb_⟩; have HFR := Aside0.mk HS.out.fresh; have HFP := Aside0.mk hf_; have HS2 := Aside0.mk (HS.out.below hb_); clear hf_ hb_ HS HKF; have HS := HS2; clear HS2; obtain ⟨b4, A4, c4, e4_, hob4_, hn4_, hk4_⟩ := Kd.ct_FK HFP.out; have HO4 := Aside0.mk (HFR.out b4 hob4_).2; obtain rfl : v4 = .pointer (some ⟨b4, 0, none⟩) := (by injection e4_); have HK4 := Aside0.mk hk4_; have HN4 := Aside0.mk hn4_; clear e4_ hk4_ hn4_ hob4_; have kp0_ : w4.cell? ⟨b4, 0, none⟩ = some (.int .i64 p.kind) := (blk_cell HN4.out.1 0).trans rfl; have kp2_ : w4.cell? ⟨b4, 2, none⟩ = some (.slice A4 p.kids.length c4) := (blk_cell HN4.out.1 2).trans rfl; have ky0_ : w4.cell? ⟨gy, 0, none⟩ = some (.int .i64 (wrap64 (11 - t.kind))) := (blk_cell HS.out.hy 0).trans rfl; have ky2_ : w4.cell? ⟨gy, 2, none⟩ = some v := (blk_cell HS.out.hy 2).trans rfl))
            go_quiet (fail)
            have HS5 := Aside0.mk (HS.out.below (W' := w4.drewN nq) (pw_below_drewN (Below.refl _ _) _)); have HFP2 := Aside0.mk (Foot.step (W1 := w4.drewN nq) HFP.out (fun k_ _ _ => rfl))
            clear HS HFP
            go_wp2_with (first | ((with_reducible refine gate_builtin (b := .append) (xs := #[.tmp 96, .tmp 98]) (ts := #[69, 69]) rfl ?_); at_builtin; refine Kd.N_append (Kd.ct 71 47) (w0 := w4.drewN nq) w.heap.size rfl (.tmp 96) (.tmp 98) 69 47 (.pointer none) 8 rfl Try.underlying69 ?ap_i rfl (by decide) (by decide) v ac p [.pointer (some ⟨b4, 0, none⟩)] (fun k => okt k ∨ (w.heap.size ≤ k ∧ k ≠ gy)) _ ?ap_s ?ap_x HFP2.out HFR.out ?ap_f HS5.out.hn (Below.refl _ _) ?ap_b ?ap_l ?_; (case ap_i => first | rfl | kernel_rfl); (case ap_s => rfl); (case ap_x => rfl); (case ap_f => intro k_ hk_; have h1_ := blk_lt HS5.out.hy; have h2_ := HS5.out.hb.size; exact .inr ⟨by omega, by omega⟩); (case ap_b => exact HS5.out.hb.size); (case ap_l => have h1_ := HL.out; omega); intro v7 w7 hn7_ hb7_ hg7_ hat7_; obtain ⟨A7_, c7_, ev7_⟩ := Kd.N_slice hn7_; subst ev7_; have hy7_ := blk_grown HS5.out.hy hg7_ (fun e_ => (HS5.out.hn.1 gy e_.symm).elim (fun h_ => absurd (HS5.out.hok gy h_) (Nat.not_lt.mpr HS5.out.hg)) (fun h_ => h_.2 rfl)); have HS7 := Aside0.mk (HS5.out.app hn7_ hg7_); clear hn7_ hb7_ hg7_ hat7_; (try clear kp0_ kp2_ ky0_ ky2_); have ky2_ : w7.cell? ⟨gy, 2, none⟩ = some v := (blk_cell hy7_ 2).trans rfl; have kfz_ : w7.frozen? ⟨gy, 2, none⟩ = false := blk_frozen hy7_ 2; clear hy7_))
            go_roundg kq
            case measure => have := HKq.out; omega
            case rel => exact ⟨_, _, _, rfl, H, ⟨by have := HKq.out; omega⟩, ⟨by have hs_ := HS7.out; (try rw [List.length_append] at hs_); (try rw [List.length_singleton] at hs_); exact hs_⟩⟩
        · rw [if_neg c6] at h
          have b6 : decide (i < (t.kids.length : Int)) = false := decide_eq_false c6
          obtain rfl := Option.some.inj h
          clear h c6
          go_wp2
          go_ret
          exact HS.out.fin rfl
set_option maxHeartbeats 8000000 in
set_option maxRecDepth 100000 in
theorem impl_Plain.calls (k : Nat) (A0 : Option Addr) (c0 : Nat) (l0 : List (S45)) (r : List (S45)) (w : World) (hr0 : Kd.C k45 w A0 l0.length l0) (hc0 : l0.length ≤ c0) (h : impl_Plain.f k l0 = some r) :
    Calls Try.prog 19 #[.slice A0 l0.length c0] w fun e w' => ∃ v0_ : Value, e = .returned (v0_) ∧ Kd.R k45 45 w' w.heap.size (fun _ => True) v0_ r ∧ Below w.heap.size w w' := by
  have HR0 := Aside0.mk hr0
  have HC0 := Aside0.mk hc0
  clear hr0 hc0
  unfold impl_Plain.f at h
  obtain ⟨t, e1, h2⟩ := Option.bind_eq_some_iff.mp h
  clear h
  have E1 := Aside0.mk e1
  clear e1
  cases t with
  | none =>
    obtain rfl : [] = r := by simpa using h2
    clear h2
    go_enter Try.func19, Try.ntmps19
    go_wp2_with (first | ((go_at_call 29); (with_reducible refine (ct_tree k A0 c0 l0 none w HR0.out HC0.out E1.out).mono ?_); rintro e_ w5 ⟨v5, rfl, hres_, hb_⟩; obtain rfl : v5 = .pointer none := hres_; have HB := Aside0.mk hb_; clear hb_))
    go_ret
    exact ⟨_, rfl, Kd.R_nil _ _ _ _ _, HB.out⟩
  | some t =>
    replace h2 : ((ctPlain k t false).bind fun p => ctFlat k p []) = some r := h2
    obtain ⟨p, e2, e3⟩ := Option.bind_eq_some_iff.mp h2
    have E2 := Aside0.mk e2
    have E3 := Aside0.mk e3
    clear h2 e2 e3
    go_enter Try.func19, Try.ntmps19
    go_wp2_with (first
      | ((go_at_call 29); (with_reducible refine (ct_tree k A0 c0 l0 (some t) w HR0.out HC0.out E1.out).mono ?_); rintro e_ w5 ⟨v5, rfl, hres_, hb_⟩; have HF := Aside0.mk (Kd.FK_bound hres_); obtain ⟨b5_, A5_, c5_, e5_, _⟩ := Kd.ct_FK hres_; obtain rfl : v5 = .pointer (some ⟨b5_, 0, none⟩) := (by injection e5_); have HB := Aside0.mk hb_; clear hb_ hres_ e5_)
      | ((go_at_call 35); (with_reducible refine (ct_plain k t _ _ false p _ HF.out (fun b_ hb_ => hb_.2) E2.out).mono ?_); rintro e_ w6 ⟨v6, rfl, hf_, hb_⟩; have HF6 := Aside0.mk (Kd.FK_bound hf_); have HB6 := Aside0.mk (below_step HB.out hb_); clear hf_ hb_ HB HF)
      | ((go_at_call 36); (with_reducible refine (ct_flat k p v6 _ (.slice none 0 0) [] w.heap.size r _ HF6.out (fun b_ hb_ => ⟨hb_.2, by simp [Value.ownBlock]⟩) (Kd.R_nil _ _ _ _ _) HB6.out.size E3.out).mono ?_); rintro e_ w7 ⟨v7, rfl, hr_, hg_⟩; have HR7 := Aside0.mk hr_; have HB7 := Aside0.mk (HB6.out.trans hg_.1); clear hr_ hg_))
    go_ret
    exact ⟨_, rfl, HR7.out, HB7.out⟩

end Go.Proofs.Ytoipkndeeeolcaa.PFnExactPlain
