-- Laid by a program of this session: a turned copy of the kit's print, with contracts by hand beside.
import Derived.Test.YtklinldidfdnjaaPFnWordBackx0
import Derived.Test.YtklinldidfdnjaaPFnWordBackx1
import Derived.Test.YtklinldidfdnjaaPFnWordBackx2
import Derived.Test.YtklinldidfdnjaaPFnWordBackx3
import Derived.Test.YtklinldidfdnjaaPFnWordBackx4
import Derived.Test.YtklinldidfdnjaaPFnWordBackx6
namespace Go.Proofs.Ytklinldidfdnjaa.PFnWordBack
open Go.RowKit Go.Proofs.YtklinldidfdnjaaW.PrintWords Go.Proofs.YtklinldidfdnjaaW.PrintLast Go.Proofs.YtklinldidfdnjaaW.PrintMore
attribute [local go_sem] max2_int min2_int max_two min_two max_three min_three max_four min_four   -- for this text's walks alone
set_option linter.unusedVariables false
set_option linter.unusedSimpArgs false

/-! ### laws_FnWordBack: function 5 -/
def wbT (k : Nat) (a n : ByteArray) (b : List Int) (t : ByteArray) : Option Bool := (impl_AddressOk.f k t).bind fun q => if q = true ∧ (14 ≤ t.size ∧ a.size + n.size + b.length ≤ 100000000) ∧ (t.extract 14 t.size).toList = n.toList then (impl_Sum.f k (bytesL (((a ++ (⟨#[58]⟩ : ByteArray)) ++ n) ++ (⟨#[58]⟩ : ByteArray)) ++ b)).bind fun t3 => (impl_Word32.f k t3).bind fun t4 => if (t.extract 0 13).toList = t4.toList then some true else none else none
def wbA (k : Nat) (l0 : List Int) : Option Bool := (spec_DrawAddress.f k l0).bind fun a => (impl_Address.f k a.1 a.2.1 a.2.2).bind fun t => (spec_NameOk.f k a.1).bind fun n1 => if n1 = true then (spec_NameOk.f k a.2.1).bind fun n2 => if n2 = true then wbT k a.1 a.2.1 a.2.2 t else if t.size = 0 then some true else none else if t.size = 0 then some true else none
def laws_FnWordBack.f (k : Nat) (l0 : List Int) : Option Bool := (laws_big.f l0).bind fun t0 => if t0 = true then some true else (spec_DrawWord32.f k l0).bind fun x => (impl_Word32.f k x).bind fun s1 => (impl_ReadWord32.f k s1).bind fun y => if y.1 = x ∧ y.2 = true then (spec_DrawReadWord32.f k l0).bind fun s => (impl_ReadWord32.f k s).bind fun z => (spec_ReadWord32.f k s).bind fun v => if v.2 = z.2 then (if z.2 = true then (impl_Word32.f k z.1).bind fun s2 => if s2.toList = s.toList then wbA k l0 else none else wbA k l0) else none else none
theorem ba_empty {t : ByteArray} (h : t.size = 0) : t = (⟨#[]⟩ : ByteArray) := by
  cases t with
  | mk d =>
    have : d = #[] := Array.eq_empty_of_size_eq_zero h
    rw [this]
set_option maxHeartbeats 8000000 in
set_option maxRecDepth 100000 in
theorem laws_FnWordBack.calls (k : Nat) (A0 : Option Addr) (c0 : Nat) (l0 : List Int) (r : Bool) (w : World) (hr0 : Kd.C (Kd.int .u8) w A0 l0.length l0) (hc0 : l0.length ≤ c0) (h : laws_FnWordBack.f k l0 = some r) :
    Calls Try.prog 5 #[.slice A0 l0.length c0] w fun e w' => e = .returned (.bool r) ∧ Below w.heap.size w w' := by
  have HR0 := Aside0.mk hr0
  have HC0 := Aside0.mk hc0
  clear hr0 hc0
  have HB := Aside0.mk (Below.refl w.heap.size w)
  unfold laws_FnWordBack.f at h
  replace h := Option.bind_eq_some_iff.mp h
  obtain ⟨t0, EE, h⟩ := h
  have E0 := Aside0.mk EE
  clear EE
  try dsimp only at h
  cases t0 with
  | true =>
    rw [if_pos rfl] at h
    obtain rfl := Option.some.inj h
    clear h
    go_enter Try.func5, Try.ntmps5
    go_wp2_with (first
      | (go_at_call 14; go_loud ((with_reducible refine (laws_big.calls _ _ l0 _ _ (Kd.C_below HR0.out (by repeat (first | (with_reducible first | exact HB.out | apply below_alloc | apply pw_below_drewN | apply below_drew1) | exact HB.out))) HC0.out E0.out).mono ?_); rintro e w1 ⟨rfl, hd⟩; (first | have hb := below_of hd | have hb := hd); have n1_ := Aside0.mk (below_step (by repeat (first | (with_reducible first | exact HB.out | apply below_alloc | apply pw_below_drewN | apply below_drew1) | exact HB.out)) hb); clear HB hb hd; have HB := n1_; clear n1_; clear E0))
      | go_in)
    go_ret
    exact ⟨rfl, by repeat (first | (with_reducible first | exact HB.out | apply below_alloc | apply pw_below_drewN | apply below_drew1) | exact HB.out)⟩
  | false =>
    rw [if_neg (by simp)] at h
    replace h := Option.bind_eq_some_iff.mp h
    obtain ⟨x, EE, h⟩ := h
    have E1 := Aside0.mk EE
    clear EE
    try dsimp only at h
    replace h := Option.bind_eq_some_iff.mp h
    obtain ⟨s1, EE, h⟩ := h
    have E2 := Aside0.mk EE
    clear EE
    try dsimp only at h
    replace h := Option.bind_eq_some_iff.mp h
    obtain ⟨⟨y1, y2⟩, EE, h⟩ := h
    have E3 := Aside0.mk EE
    clear EE
    try dsimp only at h
    by_cases hy : y1 = x ∧ y2 = true
    · rw [if_pos hy] at h
      obtain ⟨hy1, hy2⟩ := hy
      subst hy2
      replace hy1 := hy1.symm
      subst hy1
      have hxx : (x != x) = false := by simp
      replace h := Option.bind_eq_some_iff.mp h
      obtain ⟨s, EE, h⟩ := h
      have E4 := Aside0.mk EE
      clear EE
      try dsimp only at h
      replace h := Option.bind_eq_some_iff.mp h
      obtain ⟨⟨z1, z2⟩, EE, h⟩ := h
      have E5 := Aside0.mk EE
      clear EE
      try dsimp only at h
      replace h := Option.bind_eq_some_iff.mp h
      obtain ⟨⟨v1, v2⟩, EE, h⟩ := h
      have E6 := Aside0.mk EE
      clear EE
      try dsimp only at h
      by_cases hv : v2 = z2
      · rw [if_pos hv] at h
        subst hv
        cases v2 with
        | true =>
          rw [if_pos rfl] at h
          replace h := Option.bind_eq_some_iff.mp h
          obtain ⟨s2, EE, h⟩ := h
          have E7 := Aside0.mk EE
          clear EE
          try dsimp only at h
          by_cases hs : s2.toList = s.toList
          · rw [if_pos hs] at h
            have hsb : (s2.toList == s.toList) = true := beq_iff_eq.mpr hs
            clear hs
            unfold wbA at h
            replace h := Option.bind_eq_some_iff.mp h
            obtain ⟨⟨a, n, b⟩, EE, h⟩ := h
            have E8 := Aside0.mk EE
            clear EE
            try dsimp only at h
            replace h := Option.bind_eq_some_iff.mp h
            obtain ⟨t, EE, h⟩ := h
            have E9 := Aside0.mk EE
            clear EE
            try dsimp only at h
            replace h := Option.bind_eq_some_iff.mp h
            obtain ⟨n1, EE, h⟩ := h
            have E10 := Aside0.mk EE
            clear EE
            try dsimp only at h
            cases n1 with
            | false =>
              rw [if_neg (by simp)] at h
              by_cases ht : t.size = 0
              · rw [if_pos ht] at h
                obtain rfl := ba_empty ht
                clear ht
                obtain rfl := Option.some.inj h
                clear h
                go_enter Try.func5, Try.ntmps5
                go_wp2_with (first
                  | (go_at_call 14; go_loud ((with_reducible refine (laws_big.calls _ _ l0 _ _ (Kd.C_below HR0.out (by repeat (first | (with_reducible first | exact HB.out | apply below_alloc | apply pw_below_drewN | apply below_drew1) | exact HB.out))) HC0.out E0.out).mono ?_); rintro e w1 ⟨rfl, hd⟩; (first | have hb := below_of hd | have hb := hd); have n1_ := Aside0.mk (below_step (by repeat (first | (with_reducible first | exact HB.out | apply below_alloc | apply pw_below_drewN | apply below_drew1) | exact HB.out)) hb); clear HB hb hd; have HB := n1_; clear n1_; clear E0))
                  | (go_at_call 15; go_loud ((with_reducible refine (spec_DrawWord32.calls k _ _ l0 x _ (Kd.C_below HR0.out (by repeat (first | (with_reducible first | exact HB.out | apply below_alloc | apply pw_below_drewN | apply below_drew1) | exact HB.out))) HC0.out E1.out).mono ?_); rintro e w2 ⟨rfl, hd⟩; (first | have hb := below_of hd | have hb := hd); have n1_ := Aside0.mk (below_step (by repeat (first | (with_reducible first | exact HB.out | apply below_alloc | apply pw_below_drewN | apply below_drew1) | exact HB.out)) hb); clear HB hb hd; have HB := n1_; clear n1_; clear E1))
                  | (go_at_call 17; go_loud ((with_reducible refine (impl_Word32.calls k x s1 _ E2.out).mono ?_); rintro e w3 ⟨rfl, hd⟩; (first | have hb := below_of hd | have hb := hd); have n1_ := Aside0.mk (below_step (by repeat (first | (with_reducible first | exact HB.out | apply below_alloc | apply pw_below_drewN | apply below_drew1) | exact HB.out)) hb); clear HB hb hd; have HB := n1_; clear n1_; clear E2))
                  | (go_at_call 16; go_loud ((with_reducible refine (impl_ReadWord32.calls k s1 x true _ E3.out).mono ?_); rintro e w4 ⟨rfl, hd⟩; (first | have hb := below_of hd | have hb := hd); have n1_ := Aside0.mk (below_step (by repeat (first | (with_reducible first | exact HB.out | apply below_alloc | apply pw_below_drewN | apply below_drew1) | exact HB.out)) hb); clear HB hb hd; have HB := n1_; clear n1_; clear E3))
                  | (go_at_call 18; go_loud ((with_reducible refine (spec_DrawReadWord32.calls k _ _ l0 s _ (Kd.C_below HR0.out (by repeat (first | (with_reducible first | exact HB.out | apply below_alloc | apply pw_below_drewN | apply below_drew1) | exact HB.out))) HC0.out E4.out).mono ?_); rintro e w5 ⟨rfl, hd⟩; (first | have hb := below_of hd | have hb := hd); have n1_ := Aside0.mk (below_step (by repeat (first | (with_reducible first | exact HB.out | apply below_alloc | apply pw_below_drewN | apply below_drew1) | exact HB.out)) hb); clear HB hb hd; have HB := n1_; clear n1_; clear E4))
                  | (go_at_call 16; go_loud ((with_reducible refine (impl_ReadWord32.calls k s z1 true _ E5.out).mono ?_); rintro e w6 ⟨rfl, hd⟩; (first | have hb := below_of hd | have hb := hd); have n1_ := Aside0.mk (below_step (by repeat (first | (with_reducible first | exact HB.out | apply below_alloc | apply pw_below_drewN | apply below_drew1) | exact HB.out)) hb); clear HB hb hd; have HB := n1_; clear n1_; clear E5))
                  | (go_at_call 19; go_loud ((with_reducible refine (spec_ReadWord32.calls k s v1 true _ E6.out).mono ?_); rintro e w7 ⟨rfl, hd⟩; (first | have hb := below_of hd | have hb := hd); have n1_ := Aside0.mk (below_step (by repeat (first | (with_reducible first | exact HB.out | apply below_alloc | apply pw_below_drewN | apply below_drew1) | exact HB.out)) hb); clear HB hb hd; have HB := n1_; clear n1_; clear E6))
                  | (go_at_call 17; go_loud ((with_reducible refine (impl_Word32.calls k z1 s2 _ E7.out).mono ?_); rintro e w8 ⟨rfl, hd⟩; (first | have hb := below_of hd | have hb := hd); have n1_ := Aside0.mk (below_step (by repeat (first | (with_reducible first | exact HB.out | apply below_alloc | apply pw_below_drewN | apply below_drew1) | exact HB.out)) hb); clear HB hb hd; have HB := n1_; clear n1_; clear E7))
                  | (go_at_call 20; go_loud ((with_reducible refine (spec_DrawAddress.calls k _ _ l0 a n b _ (Kd.C_below HR0.out (by repeat (first | (with_reducible first | exact HB.out | apply below_alloc | apply pw_below_drewN | apply below_drew1) | exact HB.out))) HC0.out E8.out).mono ?_); rintro e w9 ⟨vb, rfl, ho, hd⟩; obtain ⟨Ab, cb, eb⟩ := Kd.R_slice ho; subst eb; have HX := Aside0.mk (Kd.R_reads' ho).2.2; have HXC := Aside0.mk (Kd.R_reads' ho).2.1; have HB9 := Aside0.mk (show Below w9.heap.size w9 w9 from Below.refl _ _); (first | have hb := below_of hd | have hb := hd); have n1_ := Aside0.mk (below_step (by repeat (first | (with_reducible first | exact HB.out | apply below_alloc | apply pw_below_drewN | apply below_drew1) | exact HB.out)) hb); clear HB hb hd; have HB := n1_; clear n1_; clear E8 ho))
                  | (go_at_call 12; go_loud ((with_reducible refine (impl_Address.calls k a n _ _ b _ _ (Kd.C_below HX.out (by first | exact HB9.out | exact (HB9.out))) HXC.out E9.out).mono ?_); rintro e wA ⟨rfl, hd⟩; (first | have hb9 := below_of hd | have hb9 := hd); have n3_ := Aside0.mk (below_step (by repeat (first | (with_reducible first | exact HB9.out | apply below_alloc | apply pw_below_drewN | apply below_drew1) | exact HB9.out)) hb9); clear HB9 hb9; have HB9 := n3_; clear n3_; (first | have hb := below_of hd | have hb := hd); have n1_ := Aside0.mk (below_step (by repeat (first | (with_reducible first | exact HB.out | apply below_alloc | apply pw_below_drewN | apply below_drew1) | exact HB.out)) hb); clear HB hb hd; have HB := n1_; clear n1_; clear E9))
                  | (go_at_call 21; go_loud ((with_reducible refine (spec_NameOk.calls k a false _ E10.out).mono ?_); rintro e wB ⟨rfl, hd⟩; (first | have hb9 := below_of hd | have hb9 := hd); have n3_ := Aside0.mk (below_step (by repeat (first | (with_reducible first | exact HB9.out | apply below_alloc | apply pw_below_drewN | apply below_drew1) | exact HB9.out)) hb9); clear HB9 hb9; have HB9 := n3_; clear n3_; (first | have hb := below_of hd | have hb := hd); have n1_ := Aside0.mk (below_step (by repeat (first | (with_reducible first | exact HB.out | apply below_alloc | apply pw_below_drewN | apply below_drew1) | exact HB.out)) hb); clear HB hb hd; have HB := n1_; clear n1_; clear E10))
                  | go_in)
                go_ret
                exact ⟨rfl, by repeat (first | (with_reducible first | exact HB.out | apply below_alloc | apply pw_below_drewN | apply below_drew1) | exact HB.out)⟩
              · rw [if_neg ht] at h
                exact absurd h (by simp)
            | true =>
              rw [if_pos rfl] at h
              replace h := Option.bind_eq_some_iff.mp h
              obtain ⟨n2, EE, h⟩ := h
              have E11 := Aside0.mk EE
              clear EE
              try dsimp only at h
              cases n2 with
              | false =>
                rw [if_neg (by simp)] at h
                by_cases ht : t.size = 0
                · rw [if_pos ht] at h
                  obtain rfl := ba_empty ht
                  clear ht
                  obtain rfl := Option.some.inj h
                  clear h
                  go_enter Try.func5, Try.ntmps5
                  go_wp2_with (first
                    | (go_at_call 14; go_loud ((with_reducible refine (laws_big.calls _ _ l0 _ _ (Kd.C_below HR0.out (by repeat (first | (with_reducible first | exact HB.out | apply below_alloc | apply pw_below_drewN | apply below_drew1) | exact HB.out))) HC0.out E0.out).mono ?_); rintro e w1 ⟨rfl, hd⟩; (first | have hb := below_of hd | have hb := hd); have n1_ := Aside0.mk (below_step (by repeat (first | (with_reducible first | exact HB.out | apply below_alloc | apply pw_below_drewN | apply below_drew1) | exact HB.out)) hb); clear HB hb hd; have HB := n1_; clear n1_; clear E0))
                    | (go_at_call 15; go_loud ((with_reducible refine (spec_DrawWord32.calls k _ _ l0 x _ (Kd.C_below HR0.out (by repeat (first | (with_reducible first | exact HB.out | apply below_alloc | apply pw_below_drewN | apply below_drew1) | exact HB.out))) HC0.out E1.out).mono ?_); rintro e w2 ⟨rfl, hd⟩; (first | have hb := below_of hd | have hb := hd); have n1_ := Aside0.mk (below_step (by repeat (first | (with_reducible first | exact HB.out | apply below_alloc | apply pw_below_drewN | apply below_drew1) | exact HB.out)) hb); clear HB hb hd; have HB := n1_; clear n1_; clear E1))
                    | (go_at_call 17; go_loud ((with_reducible refine (impl_Word32.calls k x s1 _ E2.out).mono ?_); rintro e w3 ⟨rfl, hd⟩; (first | have hb := below_of hd | have hb := hd); have n1_ := Aside0.mk (below_step (by repeat (first | (with_reducible first | exact HB.out | apply below_alloc | apply pw_below_drewN | apply below_drew1) | exact HB.out)) hb); clear HB hb hd; have HB := n1_; clear n1_; clear E2))
                    | (go_at_call 16; go_loud ((with_reducible refine (impl_ReadWord32.calls k s1 x true _ E3.out).mono ?_); rintro e w4 ⟨rfl, hd⟩; (first | have hb := below_of hd | have hb := hd); have n1_ := Aside0.mk (below_step (by repeat (first | (with_reducible first | exact HB.out | apply below_alloc | apply pw_below_drewN | apply below_drew1) | exact HB.out)) hb); clear HB hb hd; have HB := n1_; clear n1_; clear E3))
                    | (go_at_call 18; go_loud ((with_reducible refine (spec_DrawReadWord32.calls k _ _ l0 s _ (Kd.C_below HR0.out (by repeat (first | (with_reducible first | exact HB.out | apply below_alloc | apply pw_below_drewN | apply below_drew1) | exact HB.out))) HC0.out E4.out).mono ?_); rintro e w5 ⟨rfl, hd⟩; (first | have hb := below_of hd | have hb := hd); have n1_ := Aside0.mk (below_step (by repeat (first | (with_reducible first | exact HB.out | apply below_alloc | apply pw_below_drewN | apply below_drew1) | exact HB.out)) hb); clear HB hb hd; have HB := n1_; clear n1_; clear E4))
                    | (go_at_call 16; go_loud ((with_reducible refine (impl_ReadWord32.calls k s z1 true _ E5.out).mono ?_); rintro e w6 ⟨rfl, hd⟩; (first | have hb := below_of hd | have hb := hd); have n1_ := Aside0.mk (below_step (by repeat (first | (with_reducible first | exact HB.out | apply below_alloc | apply pw_below_drewN | apply below_drew1) | exact HB.out)) hb); clear HB hb hd; have HB := n1_; clear n1_; clear E5))
                    | (go_at_call 19; go_loud ((with_reducible refine (spec_ReadWord32.calls k s v1 true _ E6.out).mono ?_); rintro e w7 ⟨rfl, hd⟩; (first | have hb := below_of hd | have hb := hd); have n1_ := Aside0.mk (below_step (by repeat (first | (with_reducible first | exact HB.out | apply below_alloc | apply pw_below_drewN | apply below_drew1) | exact HB.out)) hb); clear HB hb hd; have HB := n1_; clear n1_; clear E6))
                    | (go_at_call 17; go_loud ((with_reducible refine (impl_Word32.calls k z1 s2 _ E7.out).mono ?_); rintro e w8 ⟨rfl, hd⟩; (first | have hb := below_of hd | have hb := hd); have n1_ := Aside0.mk (below_step (by repeat (first | (with_reducible first | exact HB.out | apply below_alloc | apply pw_below_drewN | apply below_drew1) | exact HB.out)) hb); clear HB hb hd; have HB := n1_; clear n1_; clear E7))
                    | (go_at_call 20; go_loud ((with_reducible refine (spec_DrawAddress.calls k _ _ l0 a n b _ (Kd.C_below HR0.out (by repeat (first | (with_reducible first | exact HB.out | apply below_alloc | apply pw_below_drewN | apply below_drew1) | exact HB.out))) HC0.out E8.out).mono ?_); rintro e w9 ⟨vb, rfl, ho, hd⟩; obtain ⟨Ab, cb, eb⟩ := Kd.R_slice ho; subst eb; have HX := Aside0.mk (Kd.R_reads' ho).2.2; have HXC := Aside0.mk (Kd.R_reads' ho).2.1; have HB9 := Aside0.mk (show Below w9.heap.size w9 w9 from Below.refl _ _); (first | have hb := below_of hd | have hb := hd); have n1_ := Aside0.mk (below_step (by repeat (first | (with_reducible first | exact HB.out | apply below_alloc | apply pw_below_drewN | apply below_drew1) | exact HB.out)) hb); clear HB hb hd; have HB := n1_; clear n1_; clear E8 ho))
                    | (go_at_call 12; go_loud ((with_reducible refine (impl_Address.calls k a n _ _ b _ _ (Kd.C_below HX.out (by first | exact HB9.out | exact (HB9.out))) HXC.out E9.out).mono ?_); rintro e wA ⟨rfl, hd⟩; (first | have hb9 := below_of hd | have hb9 := hd); have n3_ := Aside0.mk (below_step (by repeat (first | (with_reducible first | exact HB9.out | apply below_alloc | apply pw_below_drewN | apply below_drew1) | exact HB9.out)) hb9); clear HB9 hb9; have HB9 := n3_; clear n3_; (first | have hb := below_of hd | have hb := hd); have n1_ := Aside0.mk (below_step (by repeat (first | (with_reducible first | exact HB.out | apply below_alloc | apply pw_below_drewN | apply below_drew1) | exact HB.out)) hb); clear HB hb hd; have HB := n1_; clear n1_; clear E9))
                    | (go_at_call 21; go_loud ((with_reducible refine (spec_NameOk.calls k a true _ E10.out).mono ?_); rintro e wB ⟨rfl, hd⟩; (first | have hb9 := below_of hd | have hb9 := hd); have n3_ := Aside0.mk (below_step (by repeat (first | (with_reducible first | exact HB9.out | apply below_alloc | apply pw_below_drewN | apply below_drew1) | exact HB9.out)) hb9); clear HB9 hb9; have HB9 := n3_; clear n3_; (first | have hb := below_of hd | have hb := hd); have n1_ := Aside0.mk (below_step (by repeat (first | (with_reducible first | exact HB.out | apply below_alloc | apply pw_below_drewN | apply below_drew1) | exact HB.out)) hb); clear HB hb hd; have HB := n1_; clear n1_; clear E10))
                    | (go_at_call 21; go_loud ((with_reducible refine (spec_NameOk.calls k n false _ E11.out).mono ?_); rintro e wC ⟨rfl, hd⟩; (first | have hb9 := below_of hd | have hb9 := hd); have n3_ := Aside0.mk (below_step (by repeat (first | (with_reducible first | exact HB9.out | apply below_alloc | apply pw_below_drewN | apply below_drew1) | exact HB9.out)) hb9); clear HB9 hb9; have HB9 := n3_; clear n3_; (first | have hb := below_of hd | have hb := hd); have n1_ := Aside0.mk (below_step (by repeat (first | (with_reducible first | exact HB.out | apply below_alloc | apply pw_below_drewN | apply below_drew1) | exact HB.out)) hb); clear HB hb hd; have HB := n1_; clear n1_; clear E11))
                    | go_in)
                  go_ret
                  exact ⟨rfl, by repeat (first | (with_reducible first | exact HB.out | apply below_alloc | apply pw_below_drewN | apply below_drew1) | exact HB.out)⟩
                · rw [if_neg ht] at h
                  exact absurd h (by simp)
              | true =>
                rw [if_pos rfl] at h
                unfold wbT at h
                replace h := Option.bind_eq_some_iff.mp h
                obtain ⟨q, EE, h⟩ := h
                have E12 := Aside0.mk EE
                clear EE
                try dsimp only at h
                by_cases hq : q = true ∧ (14 ≤ t.size ∧ a.size + n.size + b.length ≤ 100000000) ∧ (t.extract 14 t.size).toList = n.toList
                · rw [if_pos hq] at h
                  obtain ⟨rfl, hT, hq2⟩ := hq
                  have HT := Aside0.mk hT
                  obtain ⟨L3, hL⟩ : ∃ L3, L3 = bytesL (((a ++ (⟨#[58]⟩ : ByteArray)) ++ n) ++ (⟨#[58]⟩ : ByteArray)) ++ b := ⟨_, rfl⟩
                  rw [← hL] at h
                  have HL3 := Aside0.mk hL
                  clear hL
                  replace h := Option.bind_eq_some_iff.mp h
                  obtain ⟨t3, EE, h⟩ := h
                  have E13 := Aside0.mk EE
                  clear EE
                  try dsimp only at h
                  replace h := Option.bind_eq_some_iff.mp h
                  obtain ⟨t4, EE, h⟩ := h
                  have E14 := Aside0.mk EE
                  clear EE
                  try dsimp only at h
                  by_cases h4 : (t.extract 0 13).toList = t4.toList
                  · rw [if_pos h4] at h
                    obtain rfl := Option.some.inj h
                    have q1 : ((t.extract 14 t.size).toList == n.toList) = true := beq_iff_eq.mpr hq2
                    have q2 : ((t.extract 0 13).toList == t4.toList) = true := beq_iff_eq.mpr h4
                    have h14 : 14 ≤ t.size := hT.1
                    have b4 : (t.size < 14) = False := eq_false (by omega)
                    have b5 : (t.size < 13) = False := eq_false (by omega)
                    have b6 : ((t.size : Int) < 14) = False := eq_false (by omega)
                    have b7 : ((t.size : Int) < 13) = False := eq_false (by omega)
                    have b0 : (14 ≤ t.size) = True := eq_true hT.1
                    have b1 : (13 ≤ t.size) = True := eq_true (by omega)
                    have b2 : decide ((14 : Int) ≤ (t.size : Int)) = true := decide_eq_true (by omega)
                    have b3 : decide ((13 : Int) ≤ (t.size : Int)) = true := decide_eq_true (by omega)
                    have s0_ : (9223372036854775807 < a.size + 1) = False := eq_false (by omega)
                    have s1_ : (9223372036854775807 < a.size + 1 + n.size) = False := eq_false (by omega)
                    have s2_ : (9223372036854775807 < a.size + 1 + n.size + 1) = False := eq_false (by omega)
                    clear h hq2 h4 hT
                    go_enter Try.func5, Try.ntmps5
                    go_wp2_with (first
                      | (go_at_call 14; go_loud ((with_reducible refine (laws_big.calls _ _ l0 _ _ (Kd.C_below HR0.out (by repeat (first | (with_reducible first | exact HB.out | apply below_alloc | apply pw_below_drewN | apply below_drew1) | exact HB.out))) HC0.out E0.out).mono ?_); rintro e w1 ⟨rfl, hd⟩; (first | have hb := below_of hd | have hb := hd); have n1_ := Aside0.mk (below_step (by repeat (first | (with_reducible first | exact HB.out | apply below_alloc | apply pw_below_drewN | apply below_drew1) | exact HB.out)) hb); clear HB hb hd; have HB := n1_; clear n1_; clear E0))
                      | (go_at_call 15; go_loud ((with_reducible refine (spec_DrawWord32.calls k _ _ l0 x _ (Kd.C_below HR0.out (by repeat (first | (with_reducible first | exact HB.out | apply below_alloc | apply pw_below_drewN | apply below_drew1) | exact HB.out))) HC0.out E1.out).mono ?_); rintro e w2 ⟨rfl, hd⟩; (first | have hb := below_of hd | have hb := hd); have n1_ := Aside0.mk (below_step (by repeat (first | (with_reducible first | exact HB.out | apply below_alloc | apply pw_below_drewN | apply below_drew1) | exact HB.out)) hb); clear HB hb hd; have HB := n1_; clear n1_; clear E1))
                      | (go_at_call 17; go_loud ((with_reducible refine (impl_Word32.calls k x s1 _ E2.out).mono ?_); rintro e w3 ⟨rfl, hd⟩; (first | have hb := below_of hd | have hb := hd); have n1_ := Aside0.mk (below_step (by repeat (first | (with_reducible first | exact HB.out | apply below_alloc | apply pw_below_drewN | apply below_drew1) | exact HB.out)) hb); clear HB hb hd; have HB := n1_; clear n1_; clear E2))
                      | (go_at_call 16; go_loud ((with_reducible refine (impl_ReadWord32.calls k s1 x true _ E3.out).mono ?_); rintro e w4 ⟨rfl, hd⟩; (first | have hb := below_of hd | have hb := hd); have n1_ := Aside0.mk (below_step (by repeat (first | (with_reducible first | exact HB.out | apply below_alloc | apply pw_below_drewN | apply below_drew1) | exact HB.out)) hb); clear HB hb hd; have HB := n1_; clear n1_; clear E3))
                      | (go_at_call 18; go_loud ((with_reducible refine (spec_DrawReadWord32.calls k _ _ l0 s _ (Kd.C_below HR0.out (by repeat (first | (with_reducible first | exact HB.out | apply below_alloc | apply pw_below_drewN | apply below_drew1) | exact HB.out))) HC0.out E4.out).mono ?_); rintro e w5 ⟨rfl, hd⟩; (first | have hb := below_of hd | have hb := hd); have n1_ := Aside0.mk (below_step (by repeat (first | (with_reducible first | exact HB.out | apply below_alloc | apply pw_below_drewN | apply below_drew1) | exact HB.out)) hb); clear HB hb hd; have HB := n1_; clear n1_; clear E4))
                      | (go_at_call 16; go_loud ((with_reducible refine (impl_ReadWord32.calls k s z1 true _ E5.out).mono ?_); rintro e w6 ⟨rfl, hd⟩; (first | have hb := below_of hd | have hb := hd); have n1_ := Aside0.mk (below_step (by repeat (first | (with_reducible first | exact HB.out | apply below_alloc | apply pw_below_drewN | apply below_drew1) | exact HB.out)) hb); clear HB hb hd; have HB := n1_; clear n1_; clear E5))
                      | (go_at_call 19; go_loud ((with_reducible refine (spec_ReadWord32.calls k s v1 true _ E6.out).mono ?_); rintro e w7 ⟨rfl, hd⟩; (first | have hb := below_of hd | have hb := hd); have n1_ := Aside0.mk (below_step (by repeat (first | (with_reducible first | exact HB.out | apply below_alloc | apply pw_below_drewN | apply below_drew1) | exact HB.out)) hb); clear HB hb hd; have HB := n1_; clear n1_; clear E6))
                      | (go_at_call 17; go_loud ((with_reducible refine (impl_Word32.calls k z1 s2 _ E7.out).mono ?_); rintro e w8 ⟨rfl, hd⟩; (first | have hb := below_of hd | have hb := hd); have n1_ := Aside0.mk (below_step (by repeat (first | (with_reducible first | exact HB.out | apply below_alloc | apply pw_below_drewN | apply below_drew1) | exact HB.out)) hb); clear HB hb hd; have HB := n1_; clear n1_; clear E7))
                      | (go_at_call 20; go_loud ((with_reducible refine (spec_DrawAddress.calls k _ _ l0 a n b _ (Kd.C_below HR0.out (by repeat (first | (with_reducible first | exact HB.out | apply below_alloc | apply pw_below_drewN | apply below_drew1) | exact HB.out))) HC0.out E8.out).mono ?_); rintro e w9 ⟨vb, rfl, ho, hd⟩; obtain ⟨Ab, cb, eb⟩ := Kd.R_slice ho; subst eb; have HX := Aside0.mk (Kd.R_reads' ho).2.2; have HXC := Aside0.mk (Kd.R_reads' ho).2.1; have HB9 := Aside0.mk (show Below w9.heap.size w9 w9 from Below.refl _ _); (first | have hb := below_of hd | have hb := hd); have n1_ := Aside0.mk (below_step (by repeat (first | (with_reducible first | exact HB.out | apply below_alloc | apply pw_below_drewN | apply below_drew1) | exact HB.out)) hb); clear HB hb hd; have HB := n1_; clear n1_; clear E8 ho))
                      | (go_at_call 12; go_loud ((with_reducible refine (impl_Address.calls k a n _ _ b _ _ (Kd.C_below HX.out (by first | exact HB9.out | exact (HB9.out))) HXC.out E9.out).mono ?_); rintro e wA ⟨rfl, hd⟩; (first | have hb9 := below_of hd | have hb9 := hd); have n3_ := Aside0.mk (below_step (by repeat (first | (with_reducible first | exact HB9.out | apply below_alloc | apply pw_below_drewN | apply below_drew1) | exact HB9.out)) hb9); clear HB9 hb9; have HB9 := n3_; clear n3_; (first | have hb := below_of hd | have hb := hd); have n1_ := Aside0.mk (below_step (by repeat (first | (with_reducible first | exact HB.out | apply below_alloc | apply pw_below_drewN | apply below_drew1) | exact HB.out)) hb); clear HB hb hd; have HB := n1_; clear n1_; clear E9))
                      | (go_at_call 21; go_loud ((with_reducible refine (spec_NameOk.calls k a true _ E10.out).mono ?_); rintro e wB ⟨rfl, hd⟩; (first | have hb9 := below_of hd | have hb9 := hd); have n3_ := Aside0.mk (below_step (by repeat (first | (with_reducible first | exact HB9.out | apply below_alloc | apply pw_below_drewN | apply below_drew1) | exact HB9.out)) hb9); clear HB9 hb9; have HB9 := n3_; clear n3_; (first | have hb := below_of hd | have hb := hd); have n1_ := Aside0.mk (below_step (by repeat (first | (with_reducible first | exact HB.out | apply below_alloc | apply pw_below_drewN | apply below_drew1) | exact HB.out)) hb); clear HB hb hd; have HB := n1_; clear n1_; clear E10))
                      | (go_at_call 21; go_loud ((with_reducible refine (spec_NameOk.calls k n true _ E11.out).mono ?_); rintro e wC ⟨rfl, hd⟩; (first | have hb9 := below_of hd | have hb9 := hd); have n3_ := Aside0.mk (below_step (by repeat (first | (with_reducible first | exact HB9.out | apply below_alloc | apply pw_below_drewN | apply below_drew1) | exact HB9.out)) hb9); clear HB9 hb9; have HB9 := n3_; clear n3_; (first | have hb := below_of hd | have hb := hd); have n1_ := Aside0.mk (below_step (by repeat (first | (with_reducible first | exact HB.out | apply below_alloc | apply pw_below_drewN | apply below_drew1) | exact HB.out)) hb); clear HB hb hd; have HB := n1_; clear n1_; clear E11))
                      | go_in)
                    have hz : ((bytesL (((a ++ (⟨#[58]⟩ : ByteArray)) ++ n) ++ (⟨#[58]⟩ : ByteArray))).length : Nat) + b.length ≤ 140737488355328 := by
                      rw [bytesL_length]
                      simp only [ByteArray.size_append, ByteArray.size_mk', List.size_toArray, List.length_cons, List.length_nil]
                      have := HT.out.2
                      omega
                    have hz' := Aside0.mk hz
                    clear hz
                    have i14 : (14 : Int) ≤ (t.size : Int) := by omega
                    have i13 : (13 : Int) ≤ (t.size : Int) := by omega
                    refine wp_region_noPanic ?_
                    refine wp_region_held_drew (S := fun _ => True) (by kernel_rfl) trivial (fun hHeld => ?_)
                    refine wpAnyH_take (i := 0) (v := ?_) rfl (by kernel_rfl) (by kernel_rfl) (by kernel_rfl) (fun _ _ _ h => h) (Or.inl ⟨by rfl, ?_⟩) (by assumption) ?_
                    rotate_left
                    · (intro w hSw; (try dsimp only at hSw); go_simp; (first | done | (with_reducible rfl)))
                    try simp only [Act.put, List.getElem_toArray, List.getElem_cons_succ, List.getElem_cons_zero, List.setIfInBounds_toArray, List.set_cons_zero, List.set_cons_succ]
                    refine wpAnyH_ready (rs := [1]) (by kernel_rfl) (by simp) ?_
                    refine AllReadyH.cons rfl (fun K hK => ?_) AllReadyH.nil
                    go_simp
                    (go_at_call 9; go_loud ((with_reducible refine (impl_AddressOk.calls k t true _ E12.out).mono ?_); rintro e wD ⟨rfl, hd⟩; (first | have hb9 := below_of hd | have hb9 := hd); have n3_ := Aside0.mk (below_step (by repeat (first | (with_reducible first | exact HB9.out | apply below_alloc | apply pw_below_drewN | apply below_drew1) | exact HB9.out)) hb9); clear HB9 hb9; have HB9 := n3_; clear n3_; (first | have hb := below_of hd | have hb := hd); have n1_ := Aside0.mk (below_step (by repeat (first | (with_reducible first | exact HB.out | apply below_alloc | apply pw_below_drewN | apply below_drew1) | exact HB.out)) hb); clear HB hb hd; have HB := n1_; clear n1_; clear E12))
                    try go_wp2_with fail
                    refine hK.out _ _ trivial (fun hHeld => ?_)
                    clear hK K
                    try simp only [Act.put, List.getElem_toArray, List.getElem_cons_succ, List.getElem_cons_zero, List.setIfInBounds_toArray, List.set_cons_zero, List.set_cons_succ]
                    refine wpAnyH_take (i := 2) (v := ?_) rfl (by kernel_rfl) (by kernel_rfl) (by kernel_rfl) (fun _ _ _ h => h) (Or.inl ⟨by rfl, ?_⟩) (by assumption) ?_
                    rotate_left
                    · (intro w hSw; (try dsimp only at hSw); go_simp; (first | done | (with_reducible rfl)))
                    try simp only [Act.put, List.getElem_toArray, List.getElem_cons_succ, List.getElem_cons_zero, List.setIfInBounds_toArray, List.set_cons_zero, List.set_cons_succ]
                    refine wpAnyH_take (i := 3) (v := ?_) rfl (by kernel_rfl) (by kernel_rfl) (by kernel_rfl) (fun _ _ _ h => h) (Or.inl ⟨by rfl, ?_⟩) (by assumption) ?_
                    rotate_left
                    · (intro w hSw; (try dsimp only at hSw); go_simp; (first | done | (with_reducible rfl)))
                    try simp only [Act.put, List.getElem_toArray, List.getElem_cons_succ, List.getElem_cons_zero, List.setIfInBounds_toArray, List.set_cons_zero, List.set_cons_succ]
                    refine wpAnyH_take (i := 4) (v := ?_) rfl (by kernel_rfl) (by kernel_rfl) (by kernel_rfl) (fun _ _ _ h => h) (Or.inl ⟨by rfl, ?_⟩) (by assumption) ?_
                    rotate_left
                    · (intro w hSw; (try dsimp only at hSw); go_simp; (first | done | (with_reducible rfl)))
                    try simp only [Act.put, List.getElem_toArray, List.getElem_cons_succ, List.getElem_cons_zero, List.setIfInBounds_toArray, List.set_cons_zero, List.set_cons_succ]
                    refine wpAnyH_take (i := 5) (v := ?_) rfl (by kernel_rfl) (by kernel_rfl) (by kernel_rfl) (fun _ _ _ h => h) (Or.inl ⟨by rfl, ?_⟩) (by assumption) ?_
                    rotate_left
                    · (intro w hSw; (try dsimp only at hSw); go_simp; (first | done | (with_reducible rfl)))
                    try simp only [Act.put, List.getElem_toArray, List.getElem_cons_succ, List.getElem_cons_zero, List.setIfInBounds_toArray, List.set_cons_zero, List.set_cons_succ]
                    refine wpAnyH_take (i := 6) (v := ?_) rfl (by kernel_rfl) (by kernel_rfl) (by kernel_rfl) (fun _ _ _ h => h) (Or.inl ⟨by rfl, ?_⟩) (by assumption) ?_
                    rotate_left
                    · (intro w hSw; (try dsimp only at hSw); go_simp; (first | done | (with_reducible rfl)))
                    try simp only [Act.put, List.getElem_toArray, List.getElem_cons_succ, List.getElem_cons_zero, List.setIfInBounds_toArray, List.set_cons_zero, List.set_cons_succ]
                    refine wpAnyH_take (i := 7) (v := ?_) rfl (by kernel_rfl) (by kernel_rfl) (by kernel_rfl) (fun _ _ _ h => h) (Or.inl ⟨by rfl, ?_⟩) (by assumption) ?_
                    rotate_left
                    · (intro w hSw; (try dsimp only at hSw); go_simp; (first | done | (with_reducible rfl)))
                    try simp only [Act.put, List.getElem_toArray, List.getElem_cons_succ, List.getElem_cons_zero, List.setIfInBounds_toArray, List.set_cons_zero, List.set_cons_succ]
                    refine wpAnyH_take (i := 8) (v := ?_) rfl (by kernel_rfl) (by kernel_rfl) (by kernel_rfl) (fun _ _ _ h => h) (Or.inl ⟨by rfl, ?_⟩) (by assumption) ?_
                    rotate_left
                    · (intro w hSw; (try dsimp only at hSw); go_simp; (first | done | (with_reducible rfl)))
                    try simp only [Act.put, List.getElem_toArray, List.getElem_cons_succ, List.getElem_cons_zero, List.setIfInBounds_toArray, List.set_cons_zero, List.set_cons_succ]
                    refine wpAnyH_take (i := 9) (v := ?_) rfl (by kernel_rfl) (by kernel_rfl) (by kernel_rfl) (fun _ _ _ h => h) (Or.inl ⟨by rfl, ?_⟩) (by assumption) ?_
                    rotate_left
                    · (intro w hSw; (try dsimp only at hSw); go_simp; (first | done | (with_reducible rfl)))
                    try simp only [Act.put, List.getElem_toArray, List.getElem_cons_succ, List.getElem_cons_zero, List.setIfInBounds_toArray, List.set_cons_zero, List.set_cons_succ]
                    refine wpAnyH_take (i := 10) (v := ?_) rfl (by kernel_rfl) (by kernel_rfl) (by kernel_rfl) (fun _ _ _ h => h) (Or.inl ⟨by rfl, ?_⟩) (by assumption) ?_
                    rotate_left
                    · (intro w hSw; (try dsimp only at hSw); go_simp; (first | done | (with_reducible rfl)))
                    try simp only [Act.put, List.getElem_toArray, List.getElem_cons_succ, List.getElem_cons_zero, List.setIfInBounds_toArray, List.set_cons_zero, List.set_cons_succ]
                    refine wpAnyH_take (i := 11) (v := ?_) rfl (by kernel_rfl) (by kernel_rfl) (by kernel_rfl) (fun _ _ _ h => h) (Or.inl ⟨by rfl, ?_⟩) (by assumption) ?_
                    rotate_left
                    · (intro w hSw; (try dsimp only at hSw); go_simp; (first | done | (with_reducible rfl)))
                    try simp only [Act.put, List.getElem_toArray, List.getElem_cons_succ, List.getElem_cons_zero, List.setIfInBounds_toArray, List.set_cons_zero, List.set_cons_succ]
                    refine wpAnyH_take (i := 12) (v := ?_) rfl (by kernel_rfl) (by kernel_rfl) (by kernel_rfl) (fun _ _ _ h => h) (Or.inl ⟨by rfl, ?_⟩) (by assumption) ?_
                    rotate_left
                    · (intro w hSw; (try dsimp only at hSw); go_simp; (first | done | (with_reducible rfl)))
                    try simp only [Act.put, List.getElem_toArray, List.getElem_cons_succ, List.getElem_cons_zero, List.setIfInBounds_toArray, List.set_cons_zero, List.set_cons_succ]
                    refine wpAnyH_take (i := 13) (v := ?_) rfl (by kernel_rfl) (by kernel_rfl) (by kernel_rfl) (fun _ _ _ h => h) (Or.inl ⟨by rfl, ?_⟩) (by assumption) ?_
                    rotate_left
                    · (intro w hSw; (try dsimp only at hSw); go_simp; (first | done | (with_reducible rfl)))
                    try simp only [Act.put, List.getElem_toArray, List.getElem_cons_succ, List.getElem_cons_zero, List.setIfInBounds_toArray, List.set_cons_zero, List.set_cons_succ]
                    refine wpAnyH_take (i := 14) (v := ?_) rfl (by kernel_rfl) (by kernel_rfl) (by kernel_rfl) (fun _ _ _ h => h) (Or.inl ⟨by rfl, ?_⟩) (by assumption) ?_
                    rotate_left
                    · (intro w hSw; (try dsimp only at hSw); go_simp; (first | done | (with_reducible rfl)))
                    try simp only [Act.put, List.getElem_toArray, List.getElem_cons_succ, List.getElem_cons_zero, List.setIfInBounds_toArray, List.set_cons_zero, List.set_cons_succ]
                    refine wpAnyH_take (i := 15) (v := ?_) rfl (by kernel_rfl) (by kernel_rfl) (by kernel_rfl) (fun _ _ _ h => h) (Or.inl ⟨by rfl, ?_⟩) (by assumption) ?_
                    rotate_left
                    · (intro w hSw; (try dsimp only at hSw); go_simp; (first | done | (with_reducible rfl)))
                    try simp only [Act.put, List.getElem_toArray, List.getElem_cons_succ, List.getElem_cons_zero, List.setIfInBounds_toArray, List.set_cons_zero, List.set_cons_succ]
                    refine wpAnyH_take (i := 17) (v := ?_) rfl (by kernel_rfl) (by kernel_rfl) (by kernel_rfl) (fun _ _ _ h => h) (Or.inl ⟨by rfl, ?_⟩) (by assumption) ?_
                    rotate_left
                    · (intro w hSw; (try dsimp only at hSw); go_simp; (first | done | (with_reducible rfl)))
                    try simp only [Act.put, List.getElem_toArray, List.getElem_cons_succ, List.getElem_cons_zero, List.setIfInBounds_toArray, List.set_cons_zero, List.set_cons_succ]
                    refine wpAnyH_ready (rs := [16]) (by kernel_rfl) (by simp) ?_
                    refine AllReadyH.cons rfl (fun K hK => ?_) AllReadyH.nil
                    go_simp
                    (refine conv_step (G := fun z => Oper.upon _ _ _ _ _ (Result.andThen z _)) Try.underlying9 Try.underlying23 Try.underlying5 (by simp only [ByteArray.size_append, ByteArray.size_mk', List.size_toArray, List.length_cons, List.length_nil]; have := HT.out.2; omega) ?_; go_loud (intro g1 d1 wE hl1 _ hb1 hR1; have HB9' := Aside0.mk (below_step (by repeat (first | (with_reducible first | exact HB9.out | apply below_alloc | apply pw_below_drewN | apply below_drew1) | exact HB9.out)) hb1); have HS1 := Aside0.mk (Nat.le_trans (below_size (by repeat (first | (with_reducible first | exact HB.out | apply below_alloc | apply pw_below_drewN | apply below_drew1) | exact HB.out))) hb1.size); have HR1 := Aside0.mk (hR1.raise (b2 := w.heap.size) (below_size (by repeat (first | (with_reducible first | exact HB.out | apply below_alloc | apply pw_below_drewN | apply below_drew1) | exact HB.out)))); have HB' := Aside0.mk (below_step (by repeat (first | (with_reducible first | exact HB.out | apply below_alloc | apply pw_below_drewN | apply below_drew1) | exact HB.out)) hb1); clear HB hb1 hR1 HB9; have HB := HB'; have HB9 := HB9'; clear HB' HB9'; clear hl1))
                    go_wp2_with fail
                    refine hK.out _ _ trivial (fun hHeld => ?_)
                    clear hK K
                    try simp only [Act.put, List.getElem_toArray, List.getElem_cons_succ, List.getElem_cons_zero, List.setIfInBounds_toArray, List.set_cons_zero, List.set_cons_succ]
                    refine wpAnyH_ready (rs := [18]) (by kernel_rfl) (by simp) ?_
                    refine AllReadyH.cons rfl (fun K hK => ?_) AllReadyH.nil
                    ((refine RowB.step (P := Try.prog) w.heap.size (by rfl) (.tmp 92) (.tmp 93) 23 5 rfl Try.underlying23 (by kernel_rfl) HR1.out (Kd.C_below HX.out HB9.out) (by rfl) (by rfl) hz'.out HS1.out ?_); go_loud (intro v2 wF hR2 hb2; rw [← HL3.out] at hR2; have n0_ := Aside0.mk (HB.out.trans hb2); clear HB; have HB := n0_; clear n0_; obtain ⟨A3, c3, e3_, hl3, hC3⟩ := hR2.reads (by rw [HL3.out, List.length_append]; have := hz'.out; omega); subst e3_; have HC3 := Aside0.mk hC3; have HLC := Aside0.mk hl3; clear hR2 hb2 hC3 hl3))
                    refine hK.out _ _ trivial (fun hHeld => ?_)
                    clear hK K
                    try simp only [Act.put, List.getElem_toArray, List.getElem_cons_succ, List.getElem_cons_zero, List.setIfInBounds_toArray, List.set_cons_zero, List.set_cons_succ]
                    refine wpAnyH_ready (rs := [19]) (by kernel_rfl) (by simp) ?_
                    refine AllReadyH.cons rfl (fun K hK => ?_) AllReadyH.nil
                    go_simp
                    (go_at_call 22; go_loud ((with_reducible refine (impl_Sum.calls k _ _ _ t3 _ HC3.out HLC.out E13.out).mono ?_); rintro e wG ⟨rfl, hd⟩; (first | have hb := below_of hd | have hb := hd); have n1_ := Aside0.mk (below_step (by repeat (first | (with_reducible first | exact HB.out | apply below_alloc | apply pw_below_drewN | apply below_drew1) | exact HB.out)) hb); clear HB hb hd; have HB := n1_; clear n1_; clear E13))
                    try go_wp2_with fail
                    refine hK.out _ _ trivial (fun hHeld => ?_)
                    clear hK K
                    try simp only [Act.put, List.getElem_toArray, List.getElem_cons_succ, List.getElem_cons_zero, List.setIfInBounds_toArray, List.set_cons_zero, List.set_cons_succ]
                    refine wpAnyH_ready (rs := [20]) (by kernel_rfl) (by simp) ?_
                    refine AllReadyH.cons rfl (fun K hK => ?_) AllReadyH.nil
                    go_simp
                    (go_at_call 17; go_loud ((with_reducible refine (impl_Word32.calls k t3 t4 _ E14.out).mono ?_); rintro e wH ⟨rfl, hd⟩; (first | have hb := below_of hd | have hb := hd); have n1_ := Aside0.mk (below_step (by repeat (first | (with_reducible first | exact HB.out | apply below_alloc | apply pw_below_drewN | apply below_drew1) | exact HB.out)) hb); clear HB hb hd; have HB := n1_; clear n1_; clear E14))
                    try go_wp2_with fail
                    refine hK.out _ _ trivial (fun hHeld => ?_)
                    clear hK K
                    try simp only [Act.put, List.getElem_toArray, List.getElem_cons_succ, List.getElem_cons_zero, List.setIfInBounds_toArray, List.set_cons_zero, List.set_cons_succ]
                    refine wpAnyH_take (i := 21) (v := ?_) rfl (by kernel_rfl) (by kernel_rfl) (by kernel_rfl) (fun _ _ _ h => h) (Or.inl ⟨by rfl, ?_⟩) (by assumption) ?_
                    rotate_left
                    · (intro w hSw; (try dsimp only at hSw); go_simp; (first | done | (with_reducible rfl)))
                    try simp only [Act.put, List.getElem_toArray, List.getElem_cons_succ, List.getElem_cons_zero, List.setIfInBounds_toArray, List.set_cons_zero, List.set_cons_succ]
                    refine wpAnyH_take (i := 22) (v := ?_) rfl (by kernel_rfl) (by kernel_rfl) (by kernel_rfl) (fun _ _ _ h => h) (Or.inl ⟨by rfl, ?_⟩) (by assumption) ?_
                    rotate_left
                    · (intro w hSw; (try dsimp only at hSw); go_simp; (first | done | (with_reducible rfl)))
                    try simp only [Act.put, List.getElem_toArray, List.getElem_cons_succ, List.getElem_cons_zero, List.setIfInBounds_toArray, List.set_cons_zero, List.set_cons_succ]
                    refine wpAnyH_take (i := 23) (v := ?_) rfl (by kernel_rfl) (by kernel_rfl) (by kernel_rfl) (fun _ _ _ h => h) (Or.inl ⟨by rfl, ?_⟩) (by assumption) ?_
                    rotate_left
                    · (intro w hSw; (try dsimp only at hSw); go_simp; (first | done | (with_reducible rfl)))
                    try simp only [Act.put, List.getElem_toArray, List.getElem_cons_succ, List.getElem_cons_zero, List.setIfInBounds_toArray, List.set_cons_zero, List.set_cons_succ]
                    refine wpAnyH_done (by kernel_rfl) ?_ _
                    refine NoPanic.normal ?_
                    all_goals go_wp2
                    go_ret
                    exact ⟨rfl, by repeat (first | (with_reducible first | exact HB.out | apply below_alloc | apply pw_below_drewN | apply below_drew1) | exact HB.out)⟩
                  · rw [if_neg h4] at h
                    exact absurd h (by simp)
                · rw [if_neg hq] at h
                  exact absurd h (by simp)
          · rw [if_neg hs] at h
            exact absurd h (by simp)
        | false =>
          rw [if_neg (by simp)] at h
          unfold wbA at h
          replace h := Option.bind_eq_some_iff.mp h
          obtain ⟨⟨a, n, b⟩, EE, h⟩ := h
          have E8 := Aside0.mk EE
          clear EE
          try dsimp only at h
          replace h := Option.bind_eq_some_iff.mp h
          obtain ⟨t, EE, h⟩ := h
          have E9 := Aside0.mk EE
          clear EE
          try dsimp only at h
          replace h := Option.bind_eq_some_iff.mp h
          obtain ⟨n1, EE, h⟩ := h
          have E10 := Aside0.mk EE
          clear EE
          try dsimp only at h
          cases n1 with
          | false =>
            rw [if_neg (by simp)] at h
            by_cases ht : t.size = 0
            · rw [if_pos ht] at h
              obtain rfl := ba_empty ht
              clear ht
              obtain rfl := Option.some.inj h
              clear h
              go_enter Try.func5, Try.ntmps5
              go_wp2_with (first
                | (go_at_call 14; go_loud ((with_reducible refine (laws_big.calls _ _ l0 _ _ (Kd.C_below HR0.out (by repeat (first | (with_reducible first | exact HB.out | apply below_alloc | apply pw_below_drewN | apply below_drew1) | exact HB.out))) HC0.out E0.out).mono ?_); rintro e w1 ⟨rfl, hd⟩; (first | have hb := below_of hd | have hb := hd); have n1_ := Aside0.mk (below_step (by repeat (first | (with_reducible first | exact HB.out | apply below_alloc | apply pw_below_drewN | apply below_drew1) | exact HB.out)) hb); clear HB hb hd; have HB := n1_; clear n1_; clear E0))
                | (go_at_call 15; go_loud ((with_reducible refine (spec_DrawWord32.calls k _ _ l0 x _ (Kd.C_below HR0.out (by repeat (first | (with_reducible first | exact HB.out | apply below_alloc | apply pw_below_drewN | apply below_drew1) | exact HB.out))) HC0.out E1.out).mono ?_); rintro e w2 ⟨rfl, hd⟩; (first | have hb := below_of hd | have hb := hd); have n1_ := Aside0.mk (below_step (by repeat (first | (with_reducible first | exact HB.out | apply below_alloc | apply pw_below_drewN | apply below_drew1) | exact HB.out)) hb); clear HB hb hd; have HB := n1_; clear n1_; clear E1))
                | (go_at_call 17; go_loud ((with_reducible refine (impl_Word32.calls k x s1 _ E2.out).mono ?_); rintro e w3 ⟨rfl, hd⟩; (first | have hb := below_of hd | have hb := hd); have n1_ := Aside0.mk (below_step (by repeat (first | (with_reducible first | exact HB.out | apply below_alloc | apply pw_below_drewN | apply below_drew1) | exact HB.out)) hb); clear HB hb hd; have HB := n1_; clear n1_; clear E2))
                | (go_at_call 16; go_loud ((with_reducible refine (impl_ReadWord32.calls k s1 x true _ E3.out).mono ?_); rintro e w4 ⟨rfl, hd⟩; (first | have hb := below_of hd | have hb := hd); have n1_ := Aside0.mk (below_step (by repeat (first | (with_reducible first | exact HB.out | apply below_alloc | apply pw_below_drewN | apply below_drew1) | exact HB.out)) hb); clear HB hb hd; have HB := n1_; clear n1_; clear E3))
                | (go_at_call 18; go_loud ((with_reducible refine (spec_DrawReadWord32.calls k _ _ l0 s _ (Kd.C_below HR0.out (by repeat (first | (with_reducible first | exact HB.out | apply below_alloc | apply pw_below_drewN | apply below_drew1) | exact HB.out))) HC0.out E4.out).mono ?_); rintro e w5 ⟨rfl, hd⟩; (first | have hb := below_of hd | have hb := hd); have n1_ := Aside0.mk (below_step (by repeat (first | (with_reducible first | exact HB.out | apply below_alloc | apply pw_below_drewN | apply below_drew1) | exact HB.out)) hb); clear HB hb hd; have HB := n1_; clear n1_; clear E4))
                | (go_at_call 16; go_loud ((with_reducible refine (impl_ReadWord32.calls k s z1 false _ E5.out).mono ?_); rintro e w6 ⟨rfl, hd⟩; (first | have hb := below_of hd | have hb := hd); have n1_ := Aside0.mk (below_step (by repeat (first | (with_reducible first | exact HB.out | apply below_alloc | apply pw_below_drewN | apply below_drew1) | exact HB.out)) hb); clear HB hb hd; have HB := n1_; clear n1_; clear E5))
                | (go_at_call 19; go_loud ((with_reducible refine (spec_ReadWord32.calls k s v1 false _ E6.out).mono ?_); rintro e w7 ⟨rfl, hd⟩; (first | have hb := below_of hd | have hb := hd); have n1_ := Aside0.mk (below_step (by repeat (first | (with_reducible first | exact HB.out | apply below_alloc | apply pw_below_drewN | apply below_drew1) | exact HB.out)) hb); clear HB hb hd; have HB := n1_; clear n1_; clear E6))
                | (go_at_call 20; go_loud ((with_reducible refine (spec_DrawAddress.calls k _ _ l0 a n b _ (Kd.C_below HR0.out (by repeat (first | (with_reducible first | exact HB.out | apply below_alloc | apply pw_below_drewN | apply below_drew1) | exact HB.out))) HC0.out E8.out).mono ?_); rintro e w9 ⟨vb, rfl, ho, hd⟩; obtain ⟨Ab, cb, eb⟩ := Kd.R_slice ho; subst eb; have HX := Aside0.mk (Kd.R_reads' ho).2.2; have HXC := Aside0.mk (Kd.R_reads' ho).2.1; have HB9 := Aside0.mk (show Below w9.heap.size w9 w9 from Below.refl _ _); (first | have hb := below_of hd | have hb := hd); have n1_ := Aside0.mk (below_step (by repeat (first | (with_reducible first | exact HB.out | apply below_alloc | apply pw_below_drewN | apply below_drew1) | exact HB.out)) hb); clear HB hb hd; have HB := n1_; clear n1_; clear E8 ho))
                | (go_at_call 12; go_loud ((with_reducible refine (impl_Address.calls k a n _ _ b _ _ (Kd.C_below HX.out (by first | exact HB9.out | exact (HB9.out))) HXC.out E9.out).mono ?_); rintro e wA ⟨rfl, hd⟩; (first | have hb9 := below_of hd | have hb9 := hd); have n3_ := Aside0.mk (below_step (by repeat (first | (with_reducible first | exact HB9.out | apply below_alloc | apply pw_below_drewN | apply below_drew1) | exact HB9.out)) hb9); clear HB9 hb9; have HB9 := n3_; clear n3_; (first | have hb := below_of hd | have hb := hd); have n1_ := Aside0.mk (below_step (by repeat (first | (with_reducible first | exact HB.out | apply below_alloc | apply pw_below_drewN | apply below_drew1) | exact HB.out)) hb); clear HB hb hd; have HB := n1_; clear n1_; clear E9))
                | (go_at_call 21; go_loud ((with_reducible refine (spec_NameOk.calls k a false _ E10.out).mono ?_); rintro e wB ⟨rfl, hd⟩; (first | have hb9 := below_of hd | have hb9 := hd); have n3_ := Aside0.mk (below_step (by repeat (first | (with_reducible first | exact HB9.out | apply below_alloc | apply pw_below_drewN | apply below_drew1) | exact HB9.out)) hb9); clear HB9 hb9; have HB9 := n3_; clear n3_; (first | have hb := below_of hd | have hb := hd); have n1_ := Aside0.mk (below_step (by repeat (first | (with_reducible first | exact HB.out | apply below_alloc | apply pw_below_drewN | apply below_drew1) | exact HB.out)) hb); clear HB hb hd; have HB := n1_; clear n1_; clear E10))
                | go_in)
              go_ret
              exact ⟨rfl, by repeat (first | (with_reducible first | exact HB.out | apply below_alloc | apply pw_below_drewN | apply below_drew1) | exact HB.out)⟩
            · rw [if_neg ht] at h
              exact absurd h (by simp)
          | true =>
            rw [if_pos rfl] at h
            replace h := Option.bind_eq_some_iff.mp h
            obtain ⟨n2, EE, h⟩ := h
            have E11 := Aside0.mk EE
            clear EE
            try dsimp only at h
            cases n2 with
            | false =>
              rw [if_neg (by simp)] at h
              by_cases ht : t.size = 0
              · rw [if_pos ht] at h
                obtain rfl := ba_empty ht
                clear ht
                obtain rfl := Option.some.inj h
                clear h
                go_enter Try.func5, Try.ntmps5
                go_wp2_with (first
                  | (go_at_call 14; go_loud ((with_reducible refine (laws_big.calls _ _ l0 _ _ (Kd.C_below HR0.out (by repeat (first | (with_reducible first | exact HB.out | apply below_alloc | apply pw_below_drewN | apply below_drew1) | exact HB.out))) HC0.out E0.out).mono ?_); rintro e w1 ⟨rfl, hd⟩; (first | have hb := below_of hd | have hb := hd); have n1_ := Aside0.mk (below_step (by repeat (first | (with_reducible first | exact HB.out | apply below_alloc | apply pw_below_drewN | apply below_drew1) | exact HB.out)) hb); clear HB hb hd; have HB := n1_; clear n1_; clear E0))
                  | (go_at_call 15; go_loud ((with_reducible refine (spec_DrawWord32.calls k _ _ l0 x _ (Kd.C_below HR0.out (by repeat (first | (with_reducible first | exact HB.out | apply below_alloc | apply pw_below_drewN | apply below_drew1) | exact HB.out))) HC0.out E1.out).mono ?_); rintro e w2 ⟨rfl, hd⟩; (first | have hb := below_of hd | have hb := hd); have n1_ := Aside0.mk (below_step (by repeat (first | (with_reducible first | exact HB.out | apply below_alloc | apply pw_below_drewN | apply below_drew1) | exact HB.out)) hb); clear HB hb hd; have HB := n1_; clear n1_; clear E1))
                  | (go_at_call 17; go_loud ((with_reducible refine (impl_Word32.calls k x s1 _ E2.out).mono ?_); rintro e w3 ⟨rfl, hd⟩; (first | have hb := below_of hd | have hb := hd); have n1_ := Aside0.mk (below_step (by repeat (first | (with_reducible first | exact HB.out | apply below_alloc | apply pw_below_drewN | apply below_drew1) | exact HB.out)) hb); clear HB hb hd; have HB := n1_; clear n1_; clear E2))
                  | (go_at_call 16; go_loud ((with_reducible refine (impl_ReadWord32.calls k s1 x true _ E3.out).mono ?_); rintro e w4 ⟨rfl, hd⟩; (first | have hb := below_of hd | have hb := hd); have n1_ := Aside0.mk (below_step (by repeat (first | (with_reducible first | exact HB.out | apply below_alloc | apply pw_below_drewN | apply below_drew1) | exact HB.out)) hb); clear HB hb hd; have HB := n1_; clear n1_; clear E3))
                  | (go_at_call 18; go_loud ((with_reducible refine (spec_DrawReadWord32.calls k _ _ l0 s _ (Kd.C_below HR0.out (by repeat (first | (with_reducible first | exact HB.out | apply below_alloc | apply pw_below_drewN | apply below_drew1) | exact HB.out))) HC0.out E4.out).mono ?_); rintro e w5 ⟨rfl, hd⟩; (first | have hb := below_of hd | have hb := hd); have n1_ := Aside0.mk (below_step (by repeat (first | (with_reducible first | exact HB.out | apply below_alloc | apply pw_below_drewN | apply below_drew1) | exact HB.out)) hb); clear HB hb hd; have HB := n1_; clear n1_; clear E4))
                  | (go_at_call 16; go_loud ((with_reducible refine (impl_ReadWord32.calls k s z1 false _ E5.out).mono ?_); rintro e w6 ⟨rfl, hd⟩; (first | have hb := below_of hd | have hb := hd); have n1_ := Aside0.mk (below_step (by repeat (first | (with_reducible first | exact HB.out | apply below_alloc | apply pw_below_drewN | apply below_drew1) | exact HB.out)) hb); clear HB hb hd; have HB := n1_; clear n1_; clear E5))
                  | (go_at_call 19; go_loud ((with_reducible refine (spec_ReadWord32.calls k s v1 false _ E6.out).mono ?_); rintro e w7 ⟨rfl, hd⟩; (first | have hb := below_of hd | have hb := hd); have n1_ := Aside0.mk (below_step (by repeat (first | (with_reducible first | exact HB.out | apply below_alloc | apply pw_below_drewN | apply below_drew1) | exact HB.out)) hb); clear HB hb hd; have HB := n1_; clear n1_; clear E6))
                  | (go_at_call 20; go_loud ((with_reducible refine (spec_DrawAddress.calls k _ _ l0 a n b _ (Kd.C_below HR0.out (by repeat (first | (with_reducible first | exact HB.out | apply below_alloc | apply pw_below_drewN | apply below_drew1) | exact HB.out))) HC0.out E8.out).mono ?_); rintro e w9 ⟨vb, rfl, ho, hd⟩; obtain ⟨Ab, cb, eb⟩ := Kd.R_slice ho; subst eb; have HX := Aside0.mk (Kd.R_reads' ho).2.2; have HXC := Aside0.mk (Kd.R_reads' ho).2.1; have HB9 := Aside0.mk (show Below w9.heap.size w9 w9 from Below.refl _ _); (first | have hb := below_of hd | have hb := hd); have n1_ := Aside0.mk (below_step (by repeat (first | (with_reducible first | exact HB.out | apply below_alloc | apply pw_below_drewN | apply below_drew1) | exact HB.out)) hb); clear HB hb hd; have HB := n1_; clear n1_; clear E8 ho))
                  | (go_at_call 12; go_loud ((with_reducible refine (impl_Address.calls k a n _ _ b _ _ (Kd.C_below HX.out (by first | exact HB9.out | exact (HB9.out))) HXC.out E9.out).mono ?_); rintro e wA ⟨rfl, hd⟩; (first | have hb9 := below_of hd | have hb9 := hd); have n3_ := Aside0.mk (below_step (by repeat (first | (with_reducible first | exact HB9.out | apply below_alloc | apply pw_below_drewN | apply below_drew1) | exact HB9.out)) hb9); clear HB9 hb9; have HB9 := n3_; clear n3_; (first | have hb := below_of hd | have hb := hd); have n1_ := Aside0.mk (below_step (by repeat (first | (with_reducible first | exact HB.out | apply below_alloc | apply pw_below_drewN | apply below_drew1) | exact HB.out)) hb); clear HB hb hd; have HB := n1_; clear n1_; clear E9))
                  | (go_at_call 21; go_loud ((with_reducible refine (spec_NameOk.calls k a true _ E10.out).mono ?_); rintro e wB ⟨rfl, hd⟩; (first | have hb9 := below_of hd | have hb9 := hd); have n3_ := Aside0.mk (below_step (by repeat (first | (with_reducible first | exact HB9.out | apply below_alloc | apply pw_below_drewN | apply below_drew1) | exact HB9.out)) hb9); clear HB9 hb9; have HB9 := n3_; clear n3_; (first | have hb := below_of hd | have hb := hd); have n1_ := Aside0.mk (below_step (by repeat (first | (with_reducible first | exact HB.out | apply below_alloc | apply pw_below_drewN | apply below_drew1) | exact HB.out)) hb); clear HB hb hd; have HB := n1_; clear n1_; clear E10))
                  | (go_at_call 21; go_loud ((with_reducible refine (spec_NameOk.calls k n false _ E11.out).mono ?_); rintro e wC ⟨rfl, hd⟩; (first | have hb9 := below_of hd | have hb9 := hd); have n3_ := Aside0.mk (below_step (by repeat (first | (with_reducible first | exact HB9.out | apply below_alloc | apply pw_below_drewN | apply below_drew1) | exact HB9.out)) hb9); clear HB9 hb9; have HB9 := n3_; clear n3_; (first | have hb := below_of hd | have hb := hd); have n1_ := Aside0.mk (below_step (by repeat (first | (with_reducible first | exact HB.out | apply below_alloc | apply pw_below_drewN | apply below_drew1) | exact HB.out)) hb); clear HB hb hd; have HB := n1_; clear n1_; clear E11))
                  | go_in)
                go_ret
                exact ⟨rfl, by repeat (first | (with_reducible first | exact HB.out | apply below_alloc | apply pw_below_drewN | apply below_drew1) | exact HB.out)⟩
              · rw [if_neg ht] at h
                exact absurd h (by simp)
            | true =>
              rw [if_pos rfl] at h
              unfold wbT at h
              replace h := Option.bind_eq_some_iff.mp h
              obtain ⟨q, EE, h⟩ := h
              have E12 := Aside0.mk EE
              clear EE
              try dsimp only at h
              by_cases hq : q = true ∧ (14 ≤ t.size ∧ a.size + n.size + b.length ≤ 100000000) ∧ (t.extract 14 t.size).toList = n.toList
              · rw [if_pos hq] at h
                obtain ⟨rfl, hT, hq2⟩ := hq
                have HT := Aside0.mk hT
                obtain ⟨L3, hL⟩ : ∃ L3, L3 = bytesL (((a ++ (⟨#[58]⟩ : ByteArray)) ++ n) ++ (⟨#[58]⟩ : ByteArray)) ++ b := ⟨_, rfl⟩
                rw [← hL] at h
                have HL3 := Aside0.mk hL
                clear hL
                replace h := Option.bind_eq_some_iff.mp h
                obtain ⟨t3, EE, h⟩ := h
                have E13 := Aside0.mk EE
                clear EE
                try dsimp only at h
                replace h := Option.bind_eq_some_iff.mp h
                obtain ⟨t4, EE, h⟩ := h
                have E14 := Aside0.mk EE
                clear EE
                try dsimp only at h
                by_cases h4 : (t.extract 0 13).toList = t4.toList
                · rw [if_pos h4] at h
                  obtain rfl := Option.some.inj h
                  have q1 : ((t.extract 14 t.size).toList == n.toList) = true := beq_iff_eq.mpr hq2
                  have q2 : ((t.extract 0 13).toList == t4.toList) = true := beq_iff_eq.mpr h4
                  have h14 : 14 ≤ t.size := hT.1
                  have b4 : (t.size < 14) = False := eq_false (by omega)
                  have b5 : (t.size < 13) = False := eq_false (by omega)
                  have b6 : ((t.size : Int) < 14) = False := eq_false (by omega)
                  have b7 : ((t.size : Int) < 13) = False := eq_false (by omega)
                  have b0 : (14 ≤ t.size) = True := eq_true hT.1
                  have b1 : (13 ≤ t.size) = True := eq_true (by omega)
                  have b2 : decide ((14 : Int) ≤ (t.size : Int)) = true := decide_eq_true (by omega)
                  have b3 : decide ((13 : Int) ≤ (t.size : Int)) = true := decide_eq_true (by omega)
                  have s0_ : (9223372036854775807 < a.size + 1) = False := eq_false (by omega)
                  have s1_ : (9223372036854775807 < a.size + 1 + n.size) = False := eq_false (by omega)
                  have s2_ : (9223372036854775807 < a.size + 1 + n.size + 1) = False := eq_false (by omega)
                  clear h hq2 h4 hT
                  go_enter Try.func5, Try.ntmps5
                  go_wp2_with (first
                    | (go_at_call 14; go_loud ((with_reducible refine (laws_big.calls _ _ l0 _ _ (Kd.C_below HR0.out (by repeat (first | (with_reducible first | exact HB.out | apply below_alloc | apply pw_below_drewN | apply below_drew1) | exact HB.out))) HC0.out E0.out).mono ?_); rintro e w1 ⟨rfl, hd⟩; (first | have hb := below_of hd | have hb := hd); have n1_ := Aside0.mk (below_step (by repeat (first | (with_reducible first | exact HB.out | apply below_alloc | apply pw_below_drewN | apply below_drew1) | exact HB.out)) hb); clear HB hb hd; have HB := n1_; clear n1_; clear E0))
                    | (go_at_call 15; go_loud ((with_reducible refine (spec_DrawWord32.calls k _ _ l0 x _ (Kd.C_below HR0.out (by repeat (first | (with_reducible first | exact HB.out | apply below_alloc | apply pw_below_drewN | apply below_drew1) | exact HB.out))) HC0.out E1.out).mono ?_); rintro e w2 ⟨rfl, hd⟩; (first | have hb := below_of hd | have hb := hd); have n1_ := Aside0.mk (below_step (by repeat (first | (with_reducible first | exact HB.out | apply below_alloc | apply pw_below_drewN | apply below_drew1) | exact HB.out)) hb); clear HB hb hd; have HB := n1_; clear n1_; clear E1))
                    | (go_at_call 17; go_loud ((with_reducible refine (impl_Word32.calls k x s1 _ E2.out).mono ?_); rintro e w3 ⟨rfl, hd⟩; (first | have hb := below_of hd | have hb := hd); have n1_ := Aside0.mk (below_step (by repeat (first | (with_reducible first | exact HB.out | apply below_alloc | apply pw_below_drewN | apply below_drew1) | exact HB.out)) hb); clear HB hb hd; have HB := n1_; clear n1_; clear E2))
                    | (go_at_call 16; go_loud ((with_reducible refine (impl_ReadWord32.calls k s1 x true _ E3.out).mono ?_); rintro e w4 ⟨rfl, hd⟩; (first | have hb := below_of hd | have hb := hd); have n1_ := Aside0.mk (below_step (by repeat (first | (with_reducible first | exact HB.out | apply below_alloc | apply pw_below_drewN | apply below_drew1) | exact HB.out)) hb); clear HB hb hd; have HB := n1_; clear n1_; clear E3))
                    | (go_at_call 18; go_loud ((with_reducible refine (spec_DrawReadWord32.calls k _ _ l0 s _ (Kd.C_below HR0.out (by repeat (first | (with_reducible first | exact HB.out | apply below_alloc | apply pw_below_drewN | apply below_drew1) | exact HB.out))) HC0.out E4.out).mono ?_); rintro e w5 ⟨rfl, hd⟩; (first | have hb := below_of hd | have hb := hd); have n1_ := Aside0.mk (below_step (by repeat (first | (with_reducible first | exact HB.out | apply below_alloc | apply pw_below_drewN | apply below_drew1) | exact HB.out)) hb); clear HB hb hd; have HB := n1_; clear n1_; clear E4))
                    | (go_at_call 16; go_loud ((with_reducible refine (impl_ReadWord32.calls k s z1 false _ E5.out).mono ?_); rintro e w6 ⟨rfl, hd⟩; (first | have hb := below_of hd | have hb := hd); have n1_ := Aside0.mk (below_step (by repeat (first | (with_reducible first | exact HB.out | apply below_alloc | apply pw_below_drewN | apply below_drew1) | exact HB.out)) hb); clear HB hb hd; have HB := n1_; clear n1_; clear E5))
                    | (go_at_call 19; go_loud ((with_reducible refine (spec_ReadWord32.calls k s v1 false _ E6.out).mono ?_); rintro e w7 ⟨rfl, hd⟩; (first | have hb := below_of hd | have hb := hd); have n1_ := Aside0.mk (below_step (by repeat (first | (with_reducible first | exact HB.out | apply below_alloc | apply pw_below_drewN | apply below_drew1) | exact HB.out)) hb); clear HB hb hd; have HB := n1_; clear n1_; clear E6))
                    | (go_at_call 20; go_loud ((with_reducible refine (spec_DrawAddress.calls k _ _ l0 a n b _ (Kd.C_below HR0.out (by repeat (first | (with_reducible first | exact HB.out | apply below_alloc | apply pw_below_drewN | apply below_drew1) | exact HB.out))) HC0.out E8.out).mono ?_); rintro e w9 ⟨vb, rfl, ho, hd⟩; obtain ⟨Ab, cb, eb⟩ := Kd.R_slice ho; subst eb; have HX := Aside0.mk (Kd.R_reads' ho).2.2; have HXC := Aside0.mk (Kd.R_reads' ho).2.1; have HB9 := Aside0.mk (show Below w9.heap.size w9 w9 from Below.refl _ _); (first | have hb := below_of hd | have hb := hd); have n1_ := Aside0.mk (below_step (by repeat (first | (with_reducible first | exact HB.out | apply below_alloc | apply pw_below_drewN | apply below_drew1) | exact HB.out)) hb); clear HB hb hd; have HB := n1_; clear n1_; clear E8 ho))
                    | (go_at_call 12; go_loud ((with_reducible refine (impl_Address.calls k a n _ _ b _ _ (Kd.C_below HX.out (by first | exact HB9.out | exact (HB9.out))) HXC.out E9.out).mono ?_); rintro e wA ⟨rfl, hd⟩; (first | have hb9 := below_of hd | have hb9 := hd); have n3_ := Aside0.mk (below_step (by repeat (first | (with_reducible first | exact HB9.out | apply below_alloc | apply pw_below_drewN | apply below_drew1) | exact HB9.out)) hb9); clear HB9 hb9; have HB9 := n3_; clear n3_; (first | have hb := below_of hd | have hb := hd); have n1_ := Aside0.mk (below_step (by repeat (first | (with_reducible first | exact HB.out | apply below_alloc | apply pw_below_drewN | apply below_drew1) | exact HB.out)) hb); clear HB hb hd; have HB := n1_; clear n1_; clear E9))
                    | (go_at_call 21; go_loud ((with_reducible refine (spec_NameOk.calls k a true _ E10.out).mono ?_); rintro e wB ⟨rfl, hd⟩; (first | have hb9 := below_of hd | have hb9 := hd); have n3_ := Aside0.mk (below_step (by repeat (first | (with_reducible first | exact HB9.out | apply below_alloc | apply pw_below_drewN | apply below_drew1) | exact HB9.out)) hb9); clear HB9 hb9; have HB9 := n3_; clear n3_; (first | have hb := below_of hd | have hb := hd); have n1_ := Aside0.mk (below_step (by repeat (first | (with_reducible first | exact HB.out | apply below_alloc | apply pw_below_drewN | apply below_drew1) | exact HB.out)) hb); clear HB hb hd; have HB := n1_; clear n1_; clear E10))
                    | (go_at_call 21; go_loud ((with_reducible refine (spec_NameOk.calls k n true _ E11.out).mono ?_); rintro e wC ⟨rfl, hd⟩; (first | have hb9 := below_of hd | have hb9 := hd); have n3_ := Aside0.mk (below_step (by repeat (first | (with_reducible first | exact HB9.out | apply below_alloc | apply pw_below_drewN | apply below_drew1) | exact HB9.out)) hb9); clear HB9 hb9; have HB9 := n3_; clear n3_; (first | have hb := below_of hd | have hb := hd); have n1_ := Aside0.mk (below_step (by repeat (first | (with_reducible first | exact HB.out | apply below_alloc | apply pw_below_drewN | apply below_drew1) | exact HB.out)) hb); clear HB hb hd; have HB := n1_; clear n1_; clear E11))
                    | go_in)
                  have hz : ((bytesL (((a ++ (⟨#[58]⟩ : ByteArray)) ++ n) ++ (⟨#[58]⟩ : ByteArray))).length : Nat) + b.length ≤ 140737488355328 := by
                    rw [bytesL_length]
                    simp only [ByteArray.size_append, ByteArray.size_mk', List.size_toArray, List.length_cons, List.length_nil]
                    have := HT.out.2
                    omega
                  have hz' := Aside0.mk hz
                  clear hz
                  have i14 : (14 : Int) ≤ (t.size : Int) := by omega
                  have i13 : (13 : Int) ≤ (t.size : Int) := by omega
                  refine wp_region_noPanic ?_
                  refine wp_region_held_drew (S := fun _ => True) (by kernel_rfl) trivial (fun hHeld => ?_)
                  refine wpAnyH_take (i := 0) (v := ?_) rfl (by kernel_rfl) (by kernel_rfl) (by kernel_rfl) (fun _ _ _ h => h) (Or.inl ⟨by rfl, ?_⟩) (by assumption) ?_
                  rotate_left
                  · (intro w hSw; (try dsimp only at hSw); go_simp; (first | done | (with_reducible rfl)))
                  try simp only [Act.put, List.getElem_toArray, List.getElem_cons_succ, List.getElem_cons_zero, List.setIfInBounds_toArray, List.set_cons_zero, List.set_cons_succ]
                  refine wpAnyH_ready (rs := [1]) (by kernel_rfl) (by simp) ?_
                  refine AllReadyH.cons rfl (fun K hK => ?_) AllReadyH.nil
                  go_simp
                  (go_at_call 9; go_loud ((with_reducible refine (impl_AddressOk.calls k t true _ E12.out).mono ?_); rintro e wD ⟨rfl, hd⟩; (first | have hb9 := below_of hd | have hb9 := hd); have n3_ := Aside0.mk (below_step (by repeat (first | (with_reducible first | exact HB9.out | apply below_alloc | apply pw_below_drewN | apply below_drew1) | exact HB9.out)) hb9); clear HB9 hb9; have HB9 := n3_; clear n3_; (first | have hb := below_of hd | have hb := hd); have n1_ := Aside0.mk (below_step (by repeat (first | (with_reducible first | exact HB.out | apply below_alloc | apply pw_below_drewN | apply below_drew1) | exact HB.out)) hb); clear HB hb hd; have HB := n1_; clear n1_; clear E12))
                  try go_wp2_with fail
                  refine hK.out _ _ trivial (fun hHeld => ?_)
                  clear hK K
                  try simp only [Act.put, List.getElem_toArray, List.getElem_cons_succ, List.getElem_cons_zero, List.setIfInBounds_toArray, List.set_cons_zero, List.set_cons_succ]
                  refine wpAnyH_take (i := 2) (v := ?_) rfl (by kernel_rfl) (by kernel_rfl) (by kernel_rfl) (fun _ _ _ h => h) (Or.inl ⟨by rfl, ?_⟩) (by assumption) ?_
                  rotate_left
                  · (intro w hSw; (try dsimp only at hSw); go_simp; (first | done | (with_reducible rfl)))
                  try simp only [Act.put, List.getElem_toArray, List.getElem_cons_succ, List.getElem_cons_zero, List.setIfInBounds_toArray, List.set_cons_zero, List.set_cons_succ]
                  refine wpAnyH_take (i := 3) (v := ?_) rfl (by kernel_rfl) (by kernel_rfl) (by kernel_rfl) (fun _ _ _ h => h) (Or.inl ⟨by rfl, ?_⟩) (by assumption) ?_
                  rotate_left
                  · (intro w hSw; (try dsimp only at hSw); go_simp; (first | done | (with_reducible rfl)))
                  try simp only [Act.put, List.getElem_toArray, List.getElem_cons_succ, List.getElem_cons_zero, List.setIfInBounds_toArray, List.set_cons_zero, List.set_cons_succ]
                  refine wpAnyH_take (i := 4) (v := ?_) rfl (by kernel_rfl) (by kernel_rfl) (by kernel_rfl) (fun _ _ _ h => h) (Or.inl ⟨by rfl, ?_⟩) (by assumption) ?_
                  rotate_left
                  · (intro w hSw; (try dsimp only at hSw); go_simp; (first | done | (with_reducible rfl)))
                  try simp only [Act.put, List.getElem_toArray, List.getElem_cons_succ, List.getElem_cons_zero, List.setIfInBounds_toArray, List.set_cons_zero, List.set_cons_succ]
                  refine wpAnyH_take (i := 5) (v := ?_) rfl (by kernel_rfl) (by kernel_rfl) (by kernel_rfl) (fun _ _ _ h => h) (Or.inl ⟨by rfl, ?_⟩) (by assumption) ?_
                  rotate_left
                  · (intro w hSw; (try dsimp only at hSw); go_simp; (first | done | (with_reducible rfl)))
                  try simp only [Act.put, List.getElem_toArray, List.getElem_cons_succ, List.getElem_cons_zero, List.setIfInBounds_toArray, List.set_cons_zero, List.set_cons_succ]
                  refine wpAnyH_take (i := 6) (v := ?_) rfl (by kernel_rfl) (by kernel_rfl) (by kernel_rfl) (fun _ _ _ h => h) (Or.inl ⟨by rfl, ?_⟩) (by assumption) ?_
                  rotate_left
                  · (intro w hSw; (try dsimp only at hSw); go_simp; (first | done | (with_reducible rfl)))
                  try simp only [Act.put, List.getElem_toArray, List.getElem_cons_succ, List.getElem_cons_zero, List.setIfInBounds_toArray, List.set_cons_zero, List.set_cons_succ]
                  refine wpAnyH_take (i := 7) (v := ?_) rfl (by kernel_rfl) (by kernel_rfl) (by kernel_rfl) (fun _ _ _ h => h) (Or.inl ⟨by rfl, ?_⟩) (by assumption) ?_
                  rotate_left
                  · (intro w hSw; (try dsimp only at hSw); go_simp; (first | done | (with_reducible rfl)))
                  try simp only [Act.put, List.getElem_toArray, List.getElem_cons_succ, List.getElem_cons_zero, List.setIfInBounds_toArray, List.set_cons_zero, List.set_cons_succ]
                  refine wpAnyH_take (i := 8) (v := ?_) rfl (by kernel_rfl) (by kernel_rfl) (by kernel_rfl) (fun _ _ _ h => h) (Or.inl ⟨by rfl, ?_⟩) (by assumption) ?_
                  rotate_left
                  · (intro w hSw; (try dsimp only at hSw); go_simp; (first | done | (with_reducible rfl)))
                  try simp only [Act.put, List.getElem_toArray, List.getElem_cons_succ, List.getElem_cons_zero, List.setIfInBounds_toArray, List.set_cons_zero, List.set_cons_succ]
                  refine wpAnyH_take (i := 9) (v := ?_) rfl (by kernel_rfl) (by kernel_rfl) (by kernel_rfl) (fun _ _ _ h => h) (Or.inl ⟨by rfl, ?_⟩) (by assumption) ?_
                  rotate_left
                  · (intro w hSw; (try dsimp only at hSw); go_simp; (first | done | (with_reducible rfl)))
                  try simp only [Act.put, List.getElem_toArray, List.getElem_cons_succ, List.getElem_cons_zero, List.setIfInBounds_toArray, List.set_cons_zero, List.set_cons_succ]
                  refine wpAnyH_take (i := 10) (v := ?_) rfl (by kernel_rfl) (by kernel_rfl) (by kernel_rfl) (fun _ _ _ h => h) (Or.inl ⟨by rfl, ?_⟩) (by assumption) ?_
                  rotate_left
                  · (intro w hSw; (try dsimp only at hSw); go_simp; (first | done | (with_reducible rfl)))
                  try simp only [Act.put, List.getElem_toArray, List.getElem_cons_succ, List.getElem_cons_zero, List.setIfInBounds_toArray, List.set_cons_zero, List.set_cons_succ]
                  refine wpAnyH_take (i := 11) (v := ?_) rfl (by kernel_rfl) (by kernel_rfl) (by kernel_rfl) (fun _ _ _ h => h) (Or.inl ⟨by rfl, ?_⟩) (by assumption) ?_
                  rotate_left
                  · (intro w hSw; (try dsimp only at hSw); go_simp; (first | done | (with_reducible rfl)))
                  try simp only [Act.put, List.getElem_toArray, List.getElem_cons_succ, List.getElem_cons_zero, List.setIfInBounds_toArray, List.set_cons_zero, List.set_cons_succ]
                  refine wpAnyH_take (i := 12) (v := ?_) rfl (by kernel_rfl) (by kernel_rfl) (by kernel_rfl) (fun _ _ _ h => h) (Or.inl ⟨by rfl, ?_⟩) (by assumption) ?_
                  rotate_left
                  · (intro w hSw; (try dsimp only at hSw); go_simp; (first | done | (with_reducible rfl)))
                  try simp only [Act.put, List.getElem_toArray, List.getElem_cons_succ, List.getElem_cons_zero, List.setIfInBounds_toArray, List.set_cons_zero, List.set_cons_succ]
                  refine wpAnyH_take (i := 13) (v := ?_) rfl (by kernel_rfl) (by kernel_rfl) (by kernel_rfl) (fun _ _ _ h => h) (Or.inl ⟨by rfl, ?_⟩) (by assumption) ?_
                  rotate_left
                  · (intro w hSw; (try dsimp only at hSw); go_simp; (first | done | (with_reducible rfl)))
                  try simp only [Act.put, List.getElem_toArray, List.getElem_cons_succ, List.getElem_cons_zero, List.setIfInBounds_toArray, List.set_cons_zero, List.set_cons_succ]
                  refine wpAnyH_take (i := 14) (v := ?_) rfl (by kernel_rfl) (by kernel_rfl) (by kernel_rfl) (fun _ _ _ h => h) (Or.inl ⟨by rfl, ?_⟩) (by assumption) ?_
                  rotate_left
                  · (intro w hSw; (try dsimp only at hSw); go_simp; (first | done | (with_reducible rfl)))
                  try simp only [Act.put, List.getElem_toArray, List.getElem_cons_succ, List.getElem_cons_zero, List.setIfInBounds_toArray, List.set_cons_zero, List.set_cons_succ]
                  refine wpAnyH_take (i := 15) (v := ?_) rfl (by kernel_rfl) (by kernel_rfl) (by kernel_rfl) (fun _ _ _ h => h) (Or.inl ⟨by rfl, ?_⟩) (by assumption) ?_
                  rotate_left
                  · (intro w hSw; (try dsimp only at hSw); go_simp; (first | done | (with_reducible rfl)))
                  try simp only [Act.put, List.getElem_toArray, List.getElem_cons_succ, List.getElem_cons_zero, List.setIfInBounds_toArray, List.set_cons_zero, List.set_cons_succ]
                  refine wpAnyH_take (i := 17) (v := ?_) rfl (by kernel_rfl) (by kernel_rfl) (by kernel_rfl) (fun _ _ _ h => h) (Or.inl ⟨by rfl, ?_⟩) (by assumption) ?_
                  rotate_left
                  · (intro w hSw; (try dsimp only at hSw); go_simp; (first | done | (with_reducible rfl)))
                  try simp only [Act.put, List.getElem_toArray, List.getElem_cons_succ, List.getElem_cons_zero, List.setIfInBounds_toArray, List.set_cons_zero, List.set_cons_succ]
                  refine wpAnyH_ready (rs := [16]) (by kernel_rfl) (by simp) ?_
                  refine AllReadyH.cons rfl (fun K hK => ?_) AllReadyH.nil
                  go_simp
                  (refine conv_step (G := fun z => Oper.upon _ _ _ _ _ (Result.andThen z _)) Try.underlying9 Try.underlying23 Try.underlying5 (by simp only [ByteArray.size_append, ByteArray.size_mk', List.size_toArray, List.length_cons, List.length_nil]; have := HT.out.2; omega) ?_; go_loud (intro g1 d1 wE hl1 _ hb1 hR1; have HB9' := Aside0.mk (below_step (by repeat (first | (with_reducible first | exact HB9.out | apply below_alloc | apply pw_below_drewN | apply below_drew1) | exact HB9.out)) hb1); have HS1 := Aside0.mk (Nat.le_trans (below_size (by repeat (first | (with_reducible first | exact HB.out | apply below_alloc | apply pw_below_drewN | apply below_drew1) | exact HB.out))) hb1.size); have HR1 := Aside0.mk (hR1.raise (b2 := w.heap.size) (below_size (by repeat (first | (with_reducible first | exact HB.out | apply below_alloc | apply pw_below_drewN | apply below_drew1) | exact HB.out)))); have HB' := Aside0.mk (below_step (by repeat (first | (with_reducible first | exact HB.out | apply below_alloc | apply pw_below_drewN | apply below_drew1) | exact HB.out)) hb1); clear HB hb1 hR1 HB9; have HB := HB'; have HB9 := HB9'; clear HB' HB9'; clear hl1))
                  go_wp2_with fail
                  refine hK.out _ _ trivial (fun hHeld => ?_)
                  clear hK K
                  try simp only [Act.put, List.getElem_toArray, List.getElem_cons_succ, List.getElem_cons_zero, List.setIfInBounds_toArray, List.set_cons_zero, List.set_cons_succ]
                  refine wpAnyH_ready (rs := [18]) (by kernel_rfl) (by simp) ?_
                  refine AllReadyH.cons rfl (fun K hK => ?_) AllReadyH.nil
                  ((refine RowB.step (P := Try.prog) w.heap.size (by rfl) (.tmp 92) (.tmp 93) 23 5 rfl Try.underlying23 (by kernel_rfl) HR1.out (Kd.C_below HX.out HB9.out) (by rfl) (by rfl) hz'.out HS1.out ?_); go_loud (intro v2 wF hR2 hb2; rw [← HL3.out] at hR2; have n0_ := Aside0.mk (HB.out.trans hb2); clear HB; have HB := n0_; clear n0_; obtain ⟨A3, c3, e3_, hl3, hC3⟩ := hR2.reads (by rw [HL3.out, List.length_append]; have := hz'.out; omega); subst e3_; have HC3 := Aside0.mk hC3; have HLC := Aside0.mk hl3; clear hR2 hb2 hC3 hl3))
                  refine hK.out _ _ trivial (fun hHeld => ?_)
                  clear hK K
                  try simp only [Act.put, List.getElem_toArray, List.getElem_cons_succ, List.getElem_cons_zero, List.setIfInBounds_toArray, List.set_cons_zero, List.set_cons_succ]
                  refine wpAnyH_ready (rs := [19]) (by kernel_rfl) (by simp) ?_
                  refine AllReadyH.cons rfl (fun K hK => ?_) AllReadyH.nil
                  go_simp
                  (go_at_call 22; go_loud ((with_reducible refine (impl_Sum.calls k _ _ _ t3 _ HC3.out HLC.out E13.out).mono ?_); rintro e wG ⟨rfl, hd⟩; (first | have hb := below_of hd | have hb := hd); have n1_ := Aside0.mk (below_step (by repeat (first | (with_reducible first | exact HB.out | apply below_alloc | apply pw_below_drewN | apply below_drew1) | exact HB.out)) hb); clear HB hb hd; have HB := n1_; clear n1_; clear E13))
                  try go_wp2_with fail
                  refine hK.out _ _ trivial (fun hHeld => ?_)
                  clear hK K
                  try simp only [Act.put, List.getElem_toArray, List.getElem_cons_succ, List.getElem_cons_zero, List.setIfInBounds_toArray, List.set_cons_zero, List.set_cons_succ]
                  refine wpAnyH_ready (rs := [20]) (by kernel_rfl) (by simp) ?_
                  refine AllReadyH.cons rfl (fun K hK => ?_) AllReadyH.nil
                  go_simp
                  (go_at_call 17; go_loud ((with_reducible refine (impl_Word32.calls k t3 t4 _ E14.out).mono ?_); rintro e wH ⟨rfl, hd⟩; (first | have hb := below_of hd | have hb := hd); have n1_ := Aside0.mk (below_step (by repeat (first | (with_reducible first | exact HB.out | apply below_alloc | apply pw_below_drewN | apply below_drew1) | exact HB.out)) hb); clear HB hb hd; have HB := n1_; clear n1_; clear E14))
                  try go_wp2_with fail
                  refine hK.out _ _ trivial (fun hHeld => ?_)
                  clear hK K
                  try simp only [Act.put, List.getElem_toArray, List.getElem_cons_succ, List.getElem_cons_zero, List.setIfInBounds_toArray, List.set_cons_zero, List.set_cons_succ]
                  refine wpAnyH_take (i := 21) (v := ?_) rfl (by kernel_rfl) (by kernel_rfl) (by kernel_rfl) (fun _ _ _ h => h) (Or.inl ⟨by rfl, ?_⟩) (by assumption) ?_
                  rotate_left
                  · (intro w hSw; (try dsimp only at hSw); go_simp; (first | done | (with_reducible rfl)))
                  try simp only [Act.put, List.getElem_toArray, List.getElem_cons_succ, List.getElem_cons_zero, List.setIfInBounds_toArray, List.set_cons_zero, List.set_cons_succ]
                  refine wpAnyH_take (i := 22) (v := ?_) rfl (by kernel_rfl) (by kernel_rfl) (by kernel_rfl) (fun _ _ _ h => h) (Or.inl ⟨by rfl, ?_⟩) (by assumption) ?_
                  rotate_left
                  · (intro w hSw; (try dsimp only at hSw); go_simp; (first | done | (with_reducible rfl)))
                  try simp only [Act.put, List.getElem_toArray, List.getElem_cons_succ, List.getElem_cons_zero, List.setIfInBounds_toArray, List.set_cons_zero, List.set_cons_succ]
                  refine wpAnyH_take (i := 23) (v := ?_) rfl (by kernel_rfl) (by kernel_rfl) (by kernel_rfl) (fun _ _ _ h => h) (Or.inl ⟨by rfl, ?_⟩) (by assumption) ?_
                  rotate_left
                  · (intro w hSw; (try dsimp only at hSw); go_simp; (first | done | (with_reducible rfl)))
                  try simp only [Act.put, List.getElem_toArray, List.getElem_cons_succ, List.getElem_cons_zero, List.setIfInBounds_toArray, List.set_cons_zero, List.set_cons_succ]
                  refine wpAnyH_done (by kernel_rfl) ?_ _
                  refine NoPanic.normal ?_
                  all_goals go_wp2
                  go_ret
                  exact ⟨rfl, by repeat (first | (with_reducible first | exact HB.out | apply below_alloc | apply pw_below_drewN | apply below_drew1) | exact HB.out)⟩
                · rw [if_neg h4] at h
                  exact absurd h (by simp)
              · rw [if_neg hq] at h
                exact absurd h (by simp)
      · rw [if_neg hv] at h
        exact absurd h (by simp)
    · rw [if_neg hy] at h
      exact absurd h (by simp)

/-- THE ONE PURE STATEMENT of laws_FnWordBack: yours. -/
def laws_FnWordBack.Pure : Prop := ∀ (l0 : List Int), (l0.length ≤ maxLen ∧ ∀ y0 ∈ l0, (Lit.int .u8 y0).wf = true) → ∃ k, laws_FnWordBack.f k l0 = some true
theorem laws_FnWordBack.walk (P : laws_FnWordBack.Pure) (A0 : Option Addr) (c0 : Nat) (l0 : List Int) (w : World) (hr0 : Kd.C (Kd.int .u8) w A0 l0.length l0) (hc0 : l0.length ≤ c0) (ok0 : (l0.length ≤ maxLen ∧ ∀ y0 ∈ l0, (Lit.int .u8 y0).wf = true)) :
    Calls Try.prog 5 #[.slice A0 l0.length c0] w fun e w' => e = .returned (.bool true) ∧ Below w.heap.size w w' := by
  obtain ⟨k, h⟩ := P l0 ok0
  refine (laws_FnWordBack.calls k _ _ l0 true w hr0 hc0 h).mono ?_
  rintro e w' ⟨rfl, hd⟩
  exact ⟨rfl, hd⟩
end Go.Proofs.Ytklinldidfdnjaa.PFnWordBack
