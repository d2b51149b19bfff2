/- Lemmas for the proof of one law of this seat (Qx13). -/
import Derived.Test.YtoeldfopjalpkaaDoorZRationalCanonicalQx0
import Derived.Test.YtoeldfopjalpkaaDoorZRationalCanonicalQx6
import Derived.Test.YtoeldfopjalpkaaDoorZRationalCanonicalQx10
import Derived.Test.YtoeldfopjalpkaaDoorZRationalCanonicalQx11
import Derived.Test.YtoeldfopjalpkaaDoorZRationalCanonicalQx12
import Derived.Test.YtoeldfopjalpkaaDoorZRationalCanonicalZip
namespace Go.Proofs.YtoeldfopjalpkaaDoor.Q
open Go.RowKit Go.Proofs.YtoeldfopjalpkaaDoorW.PrintWords Go.Proofs.YtoeldfopjalpkaaDoorW.PrintLast Go.Proofs.YtoeldfopjalpkaaDoorW.PrintMore
attribute [local go_sem] max2_int min2_int max_two min_two max_three min_three max_four min_four   -- for this text's walks alone
set_option linter.unusedVariables false
set_option linter.unusedSimpArgs false

def rational_Sign.f (k : Nat) (a0_0 : Bool) (l0_1 : List Int) (l0_2 : List Int) : Option (Int) := (rational_parts.f k a0_0 l0_1 l0_2).bind fun bt530 => ((bignat_BitLen.f k bt530.2.1).bind fun t537 => (if t537 = 0 then (some 0) else (if bt530.1 = true then (some (-1)) else (some 1))))
theorem rational_Sign.mono : ∀ a0 a1 a2 k, LeO (rational_Sign.f k a0 a1 a2) (rational_Sign.f (k + 1) a0 a1 a2) := by
 intro a0 a1 a2 k
 unfold rational_Sign.f
 exact zm2 bignat_BitLen.mono rational_parts.mono
set_option maxHeartbeats 8000000 in
set_option maxRecDepth 100000 in
theorem rational_Sign.calls (k : Nat) (a0_0 : Bool) (A0_1 : Option Addr) (c0_1 : Nat) (l0_1 : List Int) (A0_2 : Option Addr) (c0_2 : Nat) (l0_2 : List Int) (r : Int) (w : World) (hr0_1 : Kd.C (Kd.int .u32) w A0_1 l0_1.length l0_1) (hc0_1 : l0_1.length ≤ c0_1) (hr0_2 : Kd.C (Kd.int .u32) w A0_2 l0_2.length l0_2) (hc0_2 : l0_2.length ≤ c0_2) (h : rational_Sign.f k a0_0 l0_1 l0_2 = some r) :
 Calls Tryd.prog 27 #[.agg #[.bool a0_0, .slice A0_1 l0_1.length c0_1, .slice A0_2 l0_2.length c0_2]] w fun e w' => e = .returned (.int .i64 r) ∧ Below w.heap.size w w' := by
 have hu25 := Tryd.underlying25
 have HR0_1 := zA hr0_1
 have HC0_1 := zA hc0_1
 clear hr0_1 hc0_1
 have HR0_2 := zA hr0_2
 have HC0_2 := zA hc0_2
 clear hr0_2 hc0_2
 have HB := zA (Below.refl w.heap.size w)
 have H : ((rational_parts.f k a0_0 l0_1 l0_2).bind fun bt530 => ((bignat_BitLen.f k bt530.2.1).bind fun t537 => (if t537 = 0 then (some 0) else (if bt530.1 = true then (some (-1)) else (some 1))))) = some r := h
 clear h
 obtain ⟨⟨t530, t531, t534⟩, A20, H⟩ := zi H
 replace H : ((bignat_BitLen.f k t531).bind fun t537 => (if t537 = 0 then (some 0) else (if t530 = true then (some (-1)) else (some 1)))) = some r := H
 have A2 := zA A20
 clear A20
 obtain ⟨t537, A30, H⟩ := zi H
 replace H : (if t537 = 0 then (some 0) else (if t530 = true then (some (-1)) else (some 1))) = some r := H
 have A3 := zA A30
 clear A30
 by_cases c4 : t537 = 0
 ·
  rw [if_pos c4] at H
  have c4b0 := beq_iff_eq.mpr c4
  have c4b1 := bne_eq_false_iff_eq.mpr c4
  clear c4
  obtain rfl := Option.some.inj H
  go_enter Tryd.func27, Tryd.ntmps27
  go_wp2_with (first | ((with_reducible refine gate_dst (N := 1) rfl ?_); refine box_event ?hg (N := 1) ?hd (cs := #[.bool a0_0, .slice A0_1 l0_1.length c0_1, .slice A0_2 l0_2.length c0_2]) (t := 25) ?hr ?_; (case hd => rfl); (case hg => rfl); (case hr => first | (go_simp; done) | (go_simp; rfl)); intro gb529 hg w5 hbox hb; have BK529 := zA (hbox); have GW529 := zA ((by rw [hg]; exact (below_size (zb HB rfl)) : w.heap.size ≤ gb529)); have GE529 := zA ((by rw [hg]; exact (below_size (zb HB rfl)) : w.heap.size ≤ gb529)); replace HB := zbb HB hb rfl; clear hb hbox hg; have hcz6_0 := zc BK529 0 (v := .bool a0_0) rfl; have hcz6_1 := zc BK529 1 (v := .slice A0_1 l0_1.length c0_1) rfl; have hcz6_2 := zc BK529 2 (v := .slice A0_2 l0_2.length c0_2) rfl; have hfz6_0 := zF BK529 0; have hfz6_1 := zF BK529 1; have hfz6_2 := zF BK529 2) | ((with_reducible refine gate_callee (f := 66) rfl ?_); refine goesL_ (some 8) rfl rfl Tryd.func66 zk rfl #[.agg #[.bool a0_0, .slice A0_1 l0_1.length c0_1, .slice A0_2 l0_2.length c0_2]] rfl zX ?_; (with_reducible refine (rational_parts.calls k a0_0 (fun k_ => k_ < w.heap.size) _ _ l0_1 (fun k_ => k_ < w.heap.size) _ _ l0_2 t530 t531 t534 _ ?side1 ?side2 A2.out).mono ?_); (case side1 => exact Kd.V_mk HC0_1.out (Kd.F_below (Kd.C_F (Kd.heap_int .u32) HR0_1.out) (zb HB rfl))); (case side2 => exact Kd.V_mk HC0_2.out (Kd.F_below (Kd.C_F (Kd.heap_int .u32) HR0_2.out) (zb HB rfl))); rintro e w7 ⟨v532, v535, rfl, ho0, ho1, hb⟩; refine ⟨_, rfl, ?_⟩; have HO533 := zA (Kd.V_lower (Kd.V_mono (ok' := fun k_ => k_ ≠ gb529) ho0 (fun k_ hk_ => Or.elim hk_ (fun hs_ => Or.elim hs_ (fun hs_ => fun e_ => Nat.not_le.2 hs_ (by rw [e_]; exact GW529.out)) (fun hs_ => fun e_ => Nat.not_le.2 hs_ (by rw [e_]; exact GW529.out))) (fun hn_ => (Kd.freshB BK529.out k_ hn_)))) (below_size (zb HB rfl))); have HO536 := zA (Kd.V_lower (Kd.V_mono (ok' := fun k_ => k_ ≠ gb529) ho1 (fun k_ hk_ => Or.elim hk_ (fun hs_ => Or.elim hs_ (fun hs_ => fun e_ => Nat.not_le.2 hs_ (by rw [e_]; exact GW529.out)) (fun hs_ => fun e_ => Nat.not_le.2 hs_ (by rw [e_]; exact GW529.out))) (fun hn_ => (Kd.freshB BK529.out k_ hn_)))) (below_size (zb HB rfl))); replace BK529 := zkb BK529 hb; replace HB := zbb HB hb rfl; obtain ⟨Ao8, co8, eo8⟩ := Kd.V_slice HO533.out; subst eo8) | ((with_reducible refine gate_callee (f := 70) rfl ?_); refine goesL_ (some 14) rfl rfl Tryd.func70 zk rfl #[.slice Ao8 t531.length co8] rfl zX ?_; (with_reducible refine (bignat_BitLen.calls k _ _ t531 t537 _ ?side1 ?side2 A3.out).mono ?_); (case side1 => exact zC (Kd.V_reads' HO533.out).2.2); (case side2 => exact (Kd.V_reads' HO533.out).2.1); rintro e w9 ⟨rfl, hb⟩; refine ⟨_, rfl, ?_⟩; replace HO533 := zA (Kd.V_below (zv HO533 rfl) hb); replace HO536 := zA (Kd.V_below (zv HO536 rfl) hb); replace BK529 := zkb BK529 hb; replace HB := zbb HB hb rfl))
  go_ret
  exact ⟨zE, zG1 GE529.out⟩
 rw [if_neg c4] at H
 have c4b0 := beq_eq_false_iff_ne.mpr c4
 have c4b1 := bne_iff_ne.mpr c4
 by_cases c10 : t530 = true
 ·
  subst c10
  have H1 : (some (-1)) = some r := by rw [if_pos rfl] at H; exact H
  clear H
  have H := H1
  clear H1
  obtain rfl := Option.some.inj H
  go_enter Tryd.func27, Tryd.ntmps27
  go_wp2_with (first | ((with_reducible refine gate_dst (N := 1) rfl ?_); refine box_event ?hg (N := 1) ?hd (cs := #[.bool a0_0, .slice A0_1 l0_1.length c0_1, .slice A0_2 l0_2.length c0_2]) (t := 25) ?hr ?_; (case hd => rfl); (case hg => rfl); (case hr => first | (go_simp; done) | (go_simp; rfl)); intro gb529 hg w11 hbox hb; have BK529 := zA (hbox); have GW529 := zA ((by rw [hg]; exact (below_size (zb HB rfl)) : w.heap.size ≤ gb529)); have GE529 := zA ((by rw [hg]; exact (below_size (zb HB rfl)) : w.heap.size ≤ gb529)); replace HB := zbb HB hb rfl; clear hb hbox hg; have hcz12_0 := zc BK529 0 (v := .bool a0_0) rfl; have hcz12_1 := zc BK529 1 (v := .slice A0_1 l0_1.length c0_1) rfl; have hcz12_2 := zc BK529 2 (v := .slice A0_2 l0_2.length c0_2) rfl; have hfz12_0 := zF BK529 0; have hfz12_1 := zF BK529 1; have hfz12_2 := zF BK529 2) | ((with_reducible refine gate_callee (f := 66) rfl ?_); refine goesL_ (some 8) rfl rfl Tryd.func66 zk rfl #[.agg #[.bool a0_0, .slice A0_1 l0_1.length c0_1, .slice A0_2 l0_2.length c0_2]] rfl zX ?_; (with_reducible refine (rational_parts.calls k a0_0 (fun k_ => k_ < w.heap.size) _ _ l0_1 (fun k_ => k_ < w.heap.size) _ _ l0_2 true t531 t534 _ ?side1 ?side2 A2.out).mono ?_); (case side1 => exact Kd.V_mk HC0_1.out (Kd.F_below (Kd.C_F (Kd.heap_int .u32) HR0_1.out) (zb HB rfl))); (case side2 => exact Kd.V_mk HC0_2.out (Kd.F_below (Kd.C_F (Kd.heap_int .u32) HR0_2.out) (zb HB rfl))); rintro e w13 ⟨v532, v535, rfl, ho0, ho1, hb⟩; refine ⟨_, rfl, ?_⟩; have HO533 := zA (Kd.V_lower (Kd.V_mono (ok' := fun k_ => k_ ≠ gb529) ho0 (fun k_ hk_ => Or.elim hk_ (fun hs_ => Or.elim hs_ (fun hs_ => fun e_ => Nat.not_le.2 hs_ (by rw [e_]; exact GW529.out)) (fun hs_ => fun e_ => Nat.not_le.2 hs_ (by rw [e_]; exact GW529.out))) (fun hn_ => (Kd.freshB BK529.out k_ hn_)))) (below_size (zb HB rfl))); have HO536 := zA (Kd.V_lower (Kd.V_mono (ok' := fun k_ => k_ ≠ gb529) ho1 (fun k_ hk_ => Or.elim hk_ (fun hs_ => Or.elim hs_ (fun hs_ => fun e_ => Nat.not_le.2 hs_ (by rw [e_]; exact GW529.out)) (fun hs_ => fun e_ => Nat.not_le.2 hs_ (by rw [e_]; exact GW529.out))) (fun hn_ => (Kd.freshB BK529.out k_ hn_)))) (below_size (zb HB rfl))); replace BK529 := zkb BK529 hb; replace HB := zbb HB hb rfl; obtain ⟨Ao14, co14, eo14⟩ := Kd.V_slice HO533.out; subst eo14) | ((with_reducible refine gate_callee (f := 70) rfl ?_); refine goesL_ (some 14) rfl rfl Tryd.func70 zk rfl #[.slice Ao14 t531.length co14] rfl zX ?_; (with_reducible refine (bignat_BitLen.calls k _ _ t531 t537 _ ?side1 ?side2 A3.out).mono ?_); (case side1 => exact zC (Kd.V_reads' HO533.out).2.2); (case side2 => exact (Kd.V_reads' HO533.out).2.1); rintro e w15 ⟨rfl, hb⟩; refine ⟨_, rfl, ?_⟩; replace HO533 := zA (Kd.V_below (zv HO533 rfl) hb); replace HO536 := zA (Kd.V_below (zv HO536 rfl) hb); replace BK529 := zkb BK529 hb; replace HB := zbb HB hb rfl))
  go_ret
  exact ⟨zE, zG1 GE529.out⟩
 replace c10 := Bool.eq_false_iff.mpr c10
 subst c10
 have H1 : (some 1) = some r := by rw [if_neg (show ¬ (false = true) by decide)] at H; exact H
 clear H
 have H := H1
 clear H1
 obtain rfl := Option.some.inj H
 go_enter Tryd.func27, Tryd.ntmps27
 go_wp2_with (first | ((with_reducible refine gate_dst (N := 1) rfl ?_); refine box_event ?hg (N := 1) ?hd (cs := #[.bool a0_0, .slice A0_1 l0_1.length c0_1, .slice A0_2 l0_2.length c0_2]) (t := 25) ?hr ?_; (case hd => rfl); (case hg => rfl); (case hr => first | (go_simp; done) | (go_simp; rfl)); intro gb529 hg w16 hbox hb; have BK529 := zA (hbox); have GW529 := zA ((by rw [hg]; exact (below_size (zb HB rfl)) : w.heap.size ≤ gb529)); have GE529 := zA ((by rw [hg]; exact (below_size (zb HB rfl)) : w.heap.size ≤ gb529)); replace HB := zbb HB hb rfl; clear hb hbox hg; have hcz17_0 := zc BK529 0 (v := .bool a0_0) rfl; have hcz17_1 := zc BK529 1 (v := .slice A0_1 l0_1.length c0_1) rfl; have hcz17_2 := zc BK529 2 (v := .slice A0_2 l0_2.length c0_2) rfl; have hfz17_0 := zF BK529 0; have hfz17_1 := zF BK529 1; have hfz17_2 := zF BK529 2) | ((with_reducible refine gate_callee (f := 66) rfl ?_); refine goesL_ (some 8) rfl rfl Tryd.func66 zk rfl #[.agg #[.bool a0_0, .slice A0_1 l0_1.length c0_1, .slice A0_2 l0_2.length c0_2]] rfl zX ?_; (with_reducible refine (rational_parts.calls k a0_0 (fun k_ => k_ < w.heap.size) _ _ l0_1 (fun k_ => k_ < w.heap.size) _ _ l0_2 false t531 t534 _ ?side1 ?side2 A2.out).mono ?_); (case side1 => exact Kd.V_mk HC0_1.out (Kd.F_below (Kd.C_F (Kd.heap_int .u32) HR0_1.out) (zb HB rfl))); (case side2 => exact Kd.V_mk HC0_2.out (Kd.F_below (Kd.C_F (Kd.heap_int .u32) HR0_2.out) (zb HB rfl))); rintro e w18 ⟨v532, v535, rfl, ho0, ho1, hb⟩; refine ⟨_, rfl, ?_⟩; have HO533 := zA (Kd.V_lower (Kd.V_mono (ok' := fun k_ => k_ ≠ gb529) ho0 (fun k_ hk_ => Or.elim hk_ (fun hs_ => Or.elim hs_ (fun hs_ => fun e_ => Nat.not_le.2 hs_ (by rw [e_]; exact GW529.out)) (fun hs_ => fun e_ => Nat.not_le.2 hs_ (by rw [e_]; exact GW529.out))) (fun hn_ => (Kd.freshB BK529.out k_ hn_)))) (below_size (zb HB rfl))); have HO536 := zA (Kd.V_lower (Kd.V_mono (ok' := fun k_ => k_ ≠ gb529) ho1 (fun k_ hk_ => Or.elim hk_ (fun hs_ => Or.elim hs_ (fun hs_ => fun e_ => Nat.not_le.2 hs_ (by rw [e_]; exact GW529.out)) (fun hs_ => fun e_ => Nat.not_le.2 hs_ (by rw [e_]; exact GW529.out))) (fun hn_ => (Kd.freshB BK529.out k_ hn_)))) (below_size (zb HB rfl))); replace BK529 := zkb BK529 hb; replace HB := zbb HB hb rfl; obtain ⟨Ao19, co19, eo19⟩ := Kd.V_slice HO533.out; subst eo19) | ((with_reducible refine gate_callee (f := 70) rfl ?_); refine goesL_ (some 14) rfl rfl Tryd.func70 zk rfl #[.slice Ao19 t531.length co19] rfl zX ?_; (with_reducible refine (bignat_BitLen.calls k _ _ t531 t537 _ ?side1 ?side2 A3.out).mono ?_); (case side1 => exact zC (Kd.V_reads' HO533.out).2.2); (case side2 => exact (Kd.V_reads' HO533.out).2.1); rintro e w20 ⟨rfl, hb⟩; refine ⟨_, rfl, ?_⟩; replace HO533 := zA (Kd.V_below (zv HO533 rfl) hb); replace HO536 := zA (Kd.V_below (zv HO536 rfl) hb); replace BK529 := zkb BK529 hb; replace HB := zbb HB hb rfl))
 go_ret
 exact ⟨zE, zG1 GE529.out⟩

def rational_Cmp.f (k : Nat) (a0_0 : Bool) (l0_1 : List Int) (l0_2 : List Int) (a1_0 : Bool) (l1_1 : List Int) (l1_2 : List Int) : Option (Int) := (rational_Sign.f k a0_0 l0_1 l0_2).bind fun t540 => ((rational_Sign.f k a1_0 l1_1 l1_2).bind fun t541 => (if t540 < t541 then (some (-1)) else (none)))
theorem rational_Cmp.mono : ∀ a0 a1 a2 a3 a4 a5 k, LeO (rational_Cmp.f k a0 a1 a2 a3 a4 a5) (rational_Cmp.f (k + 1) a0 a1 a2 a3 a4 a5) := by
 intro a0 a1 a2 a3 a4 a5 k
 unfold rational_Cmp.f
 exact zm1 rational_Sign.mono
set_option maxHeartbeats 8000000 in
set_option maxRecDepth 100000 in
theorem rational_Cmp.calls (k : Nat) (a0_0 : Bool) (A0_1 : Option Addr) (c0_1 : Nat) (l0_1 : List Int) (A0_2 : Option Addr) (c0_2 : Nat) (l0_2 : List Int) (a1_0 : Bool) (A1_1 : Option Addr) (c1_1 : Nat) (l1_1 : List Int) (A1_2 : Option Addr) (c1_2 : Nat) (l1_2 : List Int) (r : Int) (w : World) (hr0_1 : Kd.C (Kd.int .u32) w A0_1 l0_1.length l0_1) (hc0_1 : l0_1.length ≤ c0_1) (hr0_2 : Kd.C (Kd.int .u32) w A0_2 l0_2.length l0_2) (hc0_2 : l0_2.length ≤ c0_2) (hr1_1 : Kd.C (Kd.int .u32) w A1_1 l1_1.length l1_1) (hc1_1 : l1_1.length ≤ c1_1) (hr1_2 : Kd.C (Kd.int .u32) w A1_2 l1_2.length l1_2) (hc1_2 : l1_2.length ≤ c1_2) (h : rational_Cmp.f k a0_0 l0_1 l0_2 a1_0 l1_1 l1_2 = some r) :
 Calls Tryd.prog 26 #[.agg #[.bool a0_0, .slice A0_1 l0_1.length c0_1, .slice A0_2 l0_2.length c0_2], .agg #[.bool a1_0, .slice A1_1 l1_1.length c1_1, .slice A1_2 l1_2.length c1_2]] w fun e w' => e = .returned (.int .i64 r) ∧ Below w.heap.size w w' := by
 have hu25 := Tryd.underlying25
 have HR0_1 := zA hr0_1
 have HC0_1 := zA hc0_1
 clear hr0_1 hc0_1
 have HR0_2 := zA hr0_2
 have HC0_2 := zA hc0_2
 clear hr0_2 hc0_2
 have HR1_1 := zA hr1_1
 have HC1_1 := zA hc1_1
 clear hr1_1 hc1_1
 have HR1_2 := zA hr1_2
 have HC1_2 := zA hc1_2
 clear hr1_2 hc1_2
 have HB := zA (Below.refl w.heap.size w)
 have H : ((rational_Sign.f k a0_0 l0_1 l0_2).bind fun t540 => ((rational_Sign.f k a1_0 l1_1 l1_2).bind fun t541 => (if t540 < t541 then (some (-1)) else (none)))) = some r := h
 clear h
 obtain ⟨t540, A30, H⟩ := zi H
 replace H : ((rational_Sign.f k a1_0 l1_1 l1_2).bind fun t541 => (if t540 < t541 then (some (-1)) else (none))) = some r := H
 have A3 := zA A30
 clear A30
 obtain ⟨t541, A40, H⟩ := zi H
 replace H : (if t540 < t541 then (some (-1)) else (none)) = some r := H
 have A4 := zA A40
 clear A40
 by_cases c5 : t540 < t541
 ·
  rw [if_pos c5] at H
  have c5b0 := decide_eq_true c5
  clear c5
  obtain rfl := Option.some.inj H
  go_enter Tryd.func26, Tryd.ntmps26
  try go_wp2_with (first | ((with_reducible refine gate_dst (N := 2) rfl ?_); refine box_event ?hg (N := 2) ?hd (cs := #[.bool a0_0, .slice A0_1 l0_1.length c0_1, .slice A0_2 l0_2.length c0_2]) (t := 25) ?hr ?_; (case hd => rfl); (case hg => rfl); (case hr => first | (go_simp; done) | (go_simp; rfl)); intro gb538 hg w6 hbox hb; have BK538 := zA (hbox); have GW538 := zA ((by rw [hg]; exact (below_size (zb HB rfl)) : w.heap.size ≤ gb538)); have GE538 := zA ((by rw [hg]; exact (below_size (zb HB rfl)) : w.heap.size ≤ gb538)); replace HB := zbb HB hb rfl; clear hb hbox hg) | ((with_reducible refine gate_dst (N := 3) rfl ?_); refine box_event ?hg (N := 3) ?hd (cs := #[.bool a1_0, .slice A1_1 l1_1.length c1_1, .slice A1_2 l1_2.length c1_2]) (t := 25) ?hr ?_; (case hd => rfl); (case hg => rfl); (case hr => first | (go_simp; done) | (go_simp; rfl)); intro gb539 hg w7 hbox hb; have BK539 := zA (hbox); have GW539 := zA ((by rw [hg]; exact (below_size (zb HB rfl)) : w.heap.size ≤ gb539)); have GE539 := zA ((by rw [hg]; exact (below_size (zb HB rfl)) : w.heap.size ≤ gb539)); replace HB := zbb HB hb rfl; have NB538_539 := zA ((by rw [hg]; exact Nat.ne_of_lt (blk_lt BK538.out) : gb538 ≠ gb539)); have NB539_538 := zA ((by rw [hg]; exact Nat.ne_of_gt (blk_lt BK538.out) : gb539 ≠ gb538)); replace BK538 := zkb BK538 hb; clear hb hbox hg))
  replace BK538 := zA (blk_drew BK538.out)
  replace BK539 := zA (blk_drew BK539.out)
  replace HB := zA (below_drew1 HB.out)
  refine start_ (n := 6) (S := fun w' => w'.cell? ⟨gb538, 0, none⟩ = some (.bool a0_0) ∧ w'.cell? ⟨gb538, 1, none⟩ = some (.slice A0_1 l0_1.length c0_1) ∧ w'.cell? ⟨gb538, 2, none⟩ = some (.slice A0_2 l0_2.length c0_2) ∧ w'.cell? ⟨gb539, 0, none⟩ = some (.bool a1_0) ∧ w'.cell? ⟨gb539, 1, none⟩ = some (.slice A1_1 l1_1.length c1_1) ∧ w'.cell? ⟨gb539, 2, none⟩ = some (.slice A1_2 l1_2.length c1_2)) (ds := []) #[false, false, false, false, false, false] zk rfl rfl ⟨zc BK538 0 rfl, zc BK538 1 rfl, zc BK538 2 rfl, zc BK539 0 rfl, zc BK539 1 rfl, zc BK539 2 rfl⟩ (fun hHeld => ?_)
  generalize w7.drew = w8 at BK538 BK539 HB hHeld ⊢
  refine take_ (i := 0) (N := some 7) (v := ?_) (a' := ?_) #[true, false, false, false, false, false] rfl rfl zk (fun _ _ _ h => h) (Or.inl ⟨by rfl, ?_⟩) hHeld ?_ ?_
  rotate_left
  ·
   rintro w' ⟨s0, s1, s2, s3, s4, s5⟩
   go_simp
   with_reducible rfl
  rotate_left
  ·
   simp only [Act.put, List.setIfInBounds_toArray, List.set_cons_zero, List.set_cons_succ, i64_w, i32_w]
   rfl
  refine take_ (i := 2) (N := some 9) (v := ?_) (a' := ?_) #[true, false, true, false, false, false] rfl rfl zk (fun _ _ _ h => h) (Or.inl ⟨by rfl, ?_⟩) hHeld ?_ ?_
  rotate_left
  ·
   rintro w' ⟨s0, s1, s2, s3, s4, s5⟩
   go_simp
   with_reducible rfl
  rotate_left
  ·
   simp only [Act.put, List.setIfInBounds_toArray, List.set_cons_zero, List.set_cons_succ, i64_w, i32_w]
   rfl
  refine one_ (i := 1) (N := some 8) #[true, true, true, false, false, false] rfl rfl zk (by decide) (fun K hK => ?_)
  refine goes_ Tryd.func27 zk rfl #[.agg #[.bool a0_0, .slice A0_1 l0_1.length c0_1, .slice A0_2 l0_2.length c0_2]] (by rfl) rfl rfl zX ?_
  with_reducible refine (rational_Sign.calls k a0_0 _ _ l0_1 _ _ l0_2 t540 _ ?side1 ?side2 ?side3 ?side4 A3.out).mono ?_
  (case side1 => exact zC (Kd.C_below HR0_1.out HB.out))
  (case side2 => exact HC0_1.out)
  (case side3 => exact zC (Kd.C_below HR0_2.out HB.out))
  (case side4 => exact HC0_2.out)
  rintro e w9 ⟨rfl, hb⟩
  refine ⟨_, rfl, ?_⟩
  replace BK538 := zkb BK538 hb
  replace BK539 := zkb BK539 hb
  replace HB := zbb HB hb rfl
  refine hK.out _ _ ⟨zc BK538 0 rfl, zc BK538 1 rfl, zc BK538 2 rfl, zc BK539 0 rfl, zc BK539 1 rfl, zc BK539 2 rfl⟩ (fun hHeld => ?_)
  clear hK K
  refine norm_ (a' := ?_) ?_ ?_
  rotate_left
  ·
   show Act.put _ (some 8) _ = _
   simp only [Act.put, List.setIfInBounds_toArray, List.set_cons_zero, List.set_cons_succ, i64_w, i32_w]
   rfl
  refine one_ (i := 3) (N := some 10) #[true, true, true, true, false, false] rfl rfl zk (by decide) (fun K hK => ?_)
  refine goes_ Tryd.func27 zk rfl #[.agg #[.bool a1_0, .slice A1_1 l1_1.length c1_1, .slice A1_2 l1_2.length c1_2]] (by rfl) rfl rfl zX ?_
  with_reducible refine (rational_Sign.calls k a1_0 _ _ l1_1 _ _ l1_2 t541 _ ?side1 ?side2 ?side3 ?side4 A4.out).mono ?_
  (case side1 => exact zC (Kd.C_below HR1_1.out HB.out))
  (case side2 => exact HC1_1.out)
  (case side3 => exact zC (Kd.C_below HR1_2.out HB.out))
  (case side4 => exact HC1_2.out)
  rintro e w10 ⟨rfl, hb⟩
  refine ⟨_, rfl, ?_⟩
  replace BK538 := zkb BK538 hb
  replace BK539 := zkb BK539 hb
  replace HB := zbb HB hb rfl
  refine hK.out _ _ ⟨zc BK538 0 rfl, zc BK538 1 rfl, zc BK538 2 rfl, zc BK539 0 rfl, zc BK539 1 rfl, zc BK539 2 rfl⟩ (fun hHeld => ?_)
  clear hK K
  refine norm_ (a' := ?_) ?_ ?_
  rotate_left
  ·
   show Act.put _ (some 10) _ = _
   simp only [Act.put, List.setIfInBounds_toArray, List.set_cons_zero, List.set_cons_succ, i64_w, i32_w]
   rfl
  refine pure_ (i := 4) (N := some 5) (v := ?_) (a' := ?_) #[true, true, true, true, true, false] rfl rfl zk (fun _ _ _ h => h) (Or.inl ⟨by rfl, ?_⟩) ?_ ?_
  rotate_left
  ·
   intro w'
   go_simp
   with_reducible rfl
  rotate_left
  ·
   simp only [Act.put, List.setIfInBounds_toArray, List.set_cons_zero, List.set_cons_succ, i64_w, i32_w]
   rfl
  refine pure_ (i := 5) (N := some 6) (v := ?_) (a' := ?_) #[true, true, true, true, true, true] rfl rfl zk (fun _ _ _ h => h) (Or.inl ⟨by rfl, ?_⟩) ?_ ?_
  rotate_left
  ·
   intro w'
   go_simp
   with_reducible rfl
  rotate_left
  ·
   simp only [Act.put, List.setIfInBounds_toArray, List.set_cons_zero, List.set_cons_succ, i64_w, i32_w]
   rfl
  refine done_ zk ?_
  try go_wp2
  go_ret
  exact ⟨zE, zG2 GE538.out GE539.out⟩
 rw [if_neg c5] at H
 cases H

def credencelaw2_known.f (k : Nat)  : Option (Bool) := (rational_New.f k (-6) 8).bind fun bt542 => ((rational_Parse.f k (⟨#[48, 46, 49, 50, 53]⟩ : ByteArray)).bind fun bt551 => (if bt542.2.2.2 = 0 then (if bt551.2.2.2 = 0 then ((rational_Format.f k bt542.1 bt542.2.1 bt542.2.2.1).bind fun t560 => (if t560.toList = ([45, 51, 47, 52] : List UInt8) then ((rational_Add.f k bt542.1 bt542.2.1 bt542.2.2.1 bt551.1 bt551.2.1 bt551.2.2.1).bind fun bt561 => ((rational_Format.f k bt561.1 bt561.2.1 bt561.2.2).bind fun t568 => (if t568.toList = ([45, 53, 47, 56] : List UInt8) then ((rational_Cmp.f k bt542.1 bt542.2.1 bt542.2.2.1 bt551.1 bt551.2.1 bt551.2.2.1).bind fun t569 => (some (t569 == (-1)))) else (none)))) else (none))) else (none)) else (none)))
theorem credencelaw2_known.mono : ∀ k, LeO (credencelaw2_known.f k ) (credencelaw2_known.f (k + 1) ) := by
 intro  k
 unfold credencelaw2_known.f
 exact zm5 rational_Add.mono rational_Cmp.mono rational_Format.mono rational_New.mono rational_Parse.mono
set_option maxHeartbeats 8000000 in
set_option maxRecDepth 100000 in
theorem credencelaw2_known.calls (k : Nat)  (r : Bool) (w : World) (h : credencelaw2_known.f k  = some r) :
 Calls Tryd.prog 14 #[] w fun e w' => e = .returned (.bool r) ∧ Below w.heap.size w w' := by
 have hu25 := Tryd.underlying25
 have HB := zA (Below.refl w.heap.size w)
 have H : ((rational_New.f k (-6) 8).bind fun bt542 => ((rational_Parse.f k (⟨#[48, 46, 49, 50, 53]⟩ : ByteArray)).bind fun bt551 => (if bt542.2.2.2 = 0 then (if bt551.2.2.2 = 0 then ((rational_Format.f k bt542.1 bt542.2.1 bt542.2.2.1).bind fun t560 => (if t560.toList = ([45, 51, 47, 52] : List UInt8) then ((rational_Add.f k bt542.1 bt542.2.1 bt542.2.2.1 bt551.1 bt551.2.1 bt551.2.2.1).bind fun bt561 => ((rational_Format.f k bt561.1 bt561.2.1 bt561.2.2).bind fun t568 => (if t568.toList = ([45, 53, 47, 56] : List UInt8) then ((rational_Cmp.f k bt542.1 bt542.2.1 bt542.2.2.1 bt551.1 bt551.2.1 bt551.2.2.1).bind fun t569 => (some (t569 == (-1)))) else (none)))) else (none))) else (none)) else (none)))) = some r := h
 clear h
 obtain ⟨⟨t542, t543, t546, t549⟩, A10, H⟩ := zi H
 replace H : ((rational_Parse.f k (⟨#[48, 46, 49, 50, 53]⟩ : ByteArray)).bind fun bt551 => (if t549 = 0 then (if bt551.2.2.2 = 0 then ((rational_Format.f k t542 t543 t546).bind fun t560 => (if t560.toList = ([45, 51, 47, 52] : List UInt8) then ((rational_Add.f k t542 t543 t546 bt551.1 bt551.2.1 bt551.2.2.1).bind fun bt561 => ((rational_Format.f k bt561.1 bt561.2.1 bt561.2.2).bind fun t568 => (if t568.toList = ([45, 53, 47, 56] : List UInt8) then ((rational_Cmp.f k t542 t543 t546 bt551.1 bt551.2.1 bt551.2.2.1).bind fun t569 => (some (t569 == (-1)))) else (none)))) else (none))) else (none)) else (none))) = some r := H
 have A1 := zA A10
 clear A10
 obtain ⟨⟨t551, t552, t555, t558⟩, A20, H⟩ := zi H
 replace H : (if t549 = 0 then (if t558 = 0 then ((rational_Format.f k t542 t543 t546).bind fun t560 => (if t560.toList = ([45, 51, 47, 52] : List UInt8) then ((rational_Add.f k t542 t543 t546 t551 t552 t555).bind fun bt561 => ((rational_Format.f k bt561.1 bt561.2.1 bt561.2.2).bind fun t568 => (if t568.toList = ([45, 53, 47, 56] : List UInt8) then ((rational_Cmp.f k t542 t543 t546 t551 t552 t555).bind fun t569 => (some (t569 == (-1)))) else (none)))) else (none))) else (none)) else (none)) = some r := H
 have A2 := zA A20
 clear A20
 by_cases c3 : t549 = 0
 ·
  rw [if_pos c3] at H
  have c3b0 := beq_iff_eq.mpr c3
  have c3b1 := bne_eq_false_iff_eq.mpr c3
  clear c3
  by_cases c4 : t558 = 0
  ·
   rw [if_pos c4] at H
   have c4b0 := beq_iff_eq.mpr c4
   have c4b1 := bne_eq_false_iff_eq.mpr c4
   clear c4
   obtain ⟨t560, A50, H⟩ := zi H
   replace H : (if t560.toList = ([45, 51, 47, 52] : List UInt8) then ((rational_Add.f k t542 t543 t546 t551 t552 t555).bind fun bt561 => ((rational_Format.f k bt561.1 bt561.2.1 bt561.2.2).bind fun t568 => (if t568.toList = ([45, 53, 47, 56] : List UInt8) then ((rational_Cmp.f k t542 t543 t546 t551 t552 t555).bind fun t569 => (some (t569 == (-1)))) else (none)))) else (none)) = some r := H
   have A5 := zA A50
   clear A50
   by_cases c6 : t560.toList = ([45, 51, 47, 52] : List UInt8)
   ·
    rw [if_pos c6] at H
    have c6b0 := beq_iff_eq.mpr c6
    have c6b1 := bne_eq_false_iff_eq.mpr c6
    clear c6
    obtain ⟨⟨t561, t562, t565⟩, A70, H⟩ := zi H
    replace H : ((rational_Format.f k t561 t562 t565).bind fun t568 => (if t568.toList = ([45, 53, 47, 56] : List UInt8) then ((rational_Cmp.f k t542 t543 t546 t551 t552 t555).bind fun t569 => (some (t569 == (-1)))) else (none))) = some r := H
    have A7 := zA A70
    clear A70
    obtain ⟨t568, A80, H⟩ := zi H
    replace H : (if t568.toList = ([45, 53, 47, 56] : List UInt8) then ((rational_Cmp.f k t542 t543 t546 t551 t552 t555).bind fun t569 => (some (t569 == (-1)))) else (none)) = some r := H
    have A8 := zA A80
    clear A80
    by_cases c9 : t568.toList = ([45, 53, 47, 56] : List UInt8)
    ·
     rw [if_pos c9] at H
     have c9b0 := beq_iff_eq.mpr c9
     have c9b1 := bne_eq_false_iff_eq.mpr c9
     clear c9
     obtain ⟨t569, A100, H⟩ := zi H
     replace H : (some (t569 == (-1))) = some r := H
     have A10 := zA A100
     clear A100
     obtain rfl := Option.some.inj H
     go_enter Tryd.func14, Tryd.ntmps14
     have M335_0 : Aside0 True := ⟨trivial⟩
     have M335_1 : Aside0 True := ⟨trivial⟩
     go_wp2_with (first | ((with_reducible refine gate_callee (f := 11) rfl ?_); refine goesL_ (some 6) rfl rfl Tryd.func11 zk rfl #[.int .i64 (-6), .int .i64 8] rfl zX ?_; (with_reducible refine (rational_New.calls k (-6) 8 t542 t543 t546 t549 _ A1.out).mono ?_); rintro e w11 ⟨v544, v547, rfl, ho0, ho1, hb⟩; refine ⟨_, rfl, ?_⟩; have HO545 := zA (Kd.R_lower ho0 (below_size (zb HB rfl))); have HO548 := zA (Kd.R_lower ho1 (below_size (zb HB rfl))); replace HB := zbb HB hb rfl) | ((with_reducible refine gate_dst (N := 1) rfl ?_); refine box_event ?hg (N := 1) ?hd (cs := #[.bool false, .slice none 0 0, .slice none 0 0]) (t := 25) ?hr ?_; (case hd => rfl); (case hg => rfl); (case hr => first | (go_simp; done) | (go_simp; rfl)); intro gb550 hg w12 hbox hb; replace HO545 := zrb HO545 hb rfl; replace HO548 := zrb HO548 hb rfl; have BK550 := zA (hbox); have GW550 := zA ((by rw [hg]; exact (below_size (zb HB rfl)) : w.heap.size ≤ gb550)); have GE550 := zA ((by rw [hg]; exact (below_size (zb HB rfl)) : w.heap.size ≤ gb550)); replace HB := zbb HB hb rfl; clear hb hbox hg; have hcz13_0 := zc BK550 0 (v := .bool false) rfl; have hcz13_1 := zc BK550 1 (v := .slice none 0 0) rfl; have hcz13_2 := zc BK550 2 (v := .slice none 0 0) rfl; have hfz13_0 := zF BK550 0; have hfz13_1 := zF BK550 1; have hfz13_2 := zF BK550 2; obtain ⟨Ao14, co14, eo14⟩ := Kd.R_slice HO545.out; subst eo14; obtain ⟨Ao15, co15, eo15⟩ := Kd.R_slice HO548.out; subst eo15) | ((with_reducible refine gate_callee (f := 16) rfl ?_); refine goesL_ (some 10) rfl rfl Tryd.func16 zk rfl #[.string (⟨#[48, 46, 49, 50, 53]⟩ : ByteArray)] rfl zX ?_; (with_reducible refine (rational_Parse.calls k (⟨#[48, 46, 49, 50, 53]⟩ : ByteArray) t551 t552 t555 t558 _ A2.out).mono ?_); rintro e w16 ⟨v553, v556, rfl, ho0, ho1, hb⟩; refine ⟨_, rfl, ?_⟩; have HO554 := zA (Kd.R_lower (Kd.R_new' (Kd.R_new' ho0 (Kd.R_lt (zR ((Kd.R_mono (Kd.R_far (p := ⟨gb550, 2, none⟩) (Kd.R_far (p := ⟨gb550, 1, none⟩) (Kd.R_far (p := ⟨gb550, 0, none⟩) (Kd.R_types HO545.out BK550.out (by decide)) (fun _ hk => hk.2) (.bool t542)) (fun _ hk => hk.2) (.slice Ao14 t543.length co14)) (fun _ hk => hk.2) (.slice Ao15 t546.length co15)) (fun _ h_ => h_.1)))))) (Kd.R_lt (zR ((Kd.R_mono (Kd.R_far (p := ⟨gb550, 2, none⟩) (Kd.R_far (p := ⟨gb550, 1, none⟩) (Kd.R_far (p := ⟨gb550, 0, none⟩) (Kd.R_types HO548.out BK550.out (by decide)) (fun _ hk => hk.2) (.bool t542)) (fun _ hk => hk.2) (.slice Ao14 t543.length co14)) (fun _ hk => hk.2) (.slice Ao15 t546.length co15)) (fun _ h_ => h_.1)))))) (below_size (zG1 GE550.out))); have HO557 := zA (Kd.R_lower (Kd.R_new' (Kd.R_new' ho1 (Kd.R_lt (zR ((Kd.R_mono (Kd.R_far (p := ⟨gb550, 2, none⟩) (Kd.R_far (p := ⟨gb550, 1, none⟩) (Kd.R_far (p := ⟨gb550, 0, none⟩) (Kd.R_types HO545.out BK550.out (by decide)) (fun _ hk => hk.2) (.bool t542)) (fun _ hk => hk.2) (.slice Ao14 t543.length co14)) (fun _ hk => hk.2) (.slice Ao15 t546.length co15)) (fun _ h_ => h_.1)))))) (Kd.R_lt (zR ((Kd.R_mono (Kd.R_far (p := ⟨gb550, 2, none⟩) (Kd.R_far (p := ⟨gb550, 1, none⟩) (Kd.R_far (p := ⟨gb550, 0, none⟩) (Kd.R_types HO548.out BK550.out (by decide)) (fun _ hk => hk.2) (.bool t542)) (fun _ hk => hk.2) (.slice Ao14 t543.length co14)) (fun _ hk => hk.2) (.slice Ao15 t546.length co15)) (fun _ h_ => h_.1)))))) (below_size (zG1 GE550.out))); replace HO545 := zA (Kd.R_mono (Kd.R_told (Kd.R_told (Kd.R_old (zR ((Kd.R_mono (Kd.R_far (p := ⟨gb550, 2, none⟩) (Kd.R_far (p := ⟨gb550, 1, none⟩) (Kd.R_far (p := ⟨gb550, 0, none⟩) (Kd.R_types HO545.out BK550.out (by decide)) (fun _ hk => hk.2) (.bool t542)) (fun _ hk => hk.2) (.slice Ao14 t543.length co14)) (fun _ hk => hk.2) (.slice Ao15 t546.length co15)) (fun _ h_ => h_.1)))) hb) (Kd.R_base ho0)) (Kd.R_base ho1)) (fun _ h_ => h_.1)); replace HO548 := zA (Kd.R_mono (Kd.R_told (Kd.R_told (Kd.R_old (zR ((Kd.R_mono (Kd.R_far (p := ⟨gb550, 2, none⟩) (Kd.R_far (p := ⟨gb550, 1, none⟩) (Kd.R_far (p := ⟨gb550, 0, none⟩) (Kd.R_types HO548.out BK550.out (by decide)) (fun _ hk => hk.2) (.bool t542)) (fun _ hk => hk.2) (.slice Ao14 t543.length co14)) (fun _ hk => hk.2) (.slice Ao15 t546.length co15)) (fun _ h_ => h_.1)))) hb) (Kd.R_base ho0)) (Kd.R_base ho1)) (fun _ h_ => h_.1)); replace BK550 := zA (blk_below (g := gb550) (o := .cells #[.bool t542, .slice Ao14 t543.length co14, .slice Ao15 t546.length co15] 25 (0, 0)) (by (with_reducible repeat (first | refine blk_drewN ?_ _ | refine blk_drew ?_ | refine blk_alloc ?_ _)); refine blk_put (cs := #[.bool t542, .slice Ao14 t543.length co14, .slice none 0 0]) ?_ 2 _ rfl; (with_reducible repeat (first | refine blk_drewN ?_ _ | refine blk_drew ?_ | refine blk_alloc ?_ _)); refine blk_put (cs := #[.bool t542, .slice none 0 0, .slice none 0 0]) ?_ 1 _ rfl; (with_reducible repeat (first | refine blk_drewN ?_ _ | refine blk_drew ?_ | refine blk_alloc ?_ _)); refine blk_put (cs := #[.bool false, .slice none 0 0, .slice none 0 0]) ?_ 0 _ rfl; (with_reducible repeat (first | refine blk_drewN ?_ _ | refine blk_drew ?_ | refine blk_alloc ?_ _)); exact BK550.out) hb); replace HB := zA (below_step (zG1 GE550.out) hb)) | ((with_reducible refine gate_dst (N := 3) rfl ?_); refine box_event ?hg (N := 3) ?hd (cs := #[.bool false, .slice none 0 0, .slice none 0 0]) (t := 25) ?hr ?_; (case hd => rfl); (case hg => rfl); (case hr => first | (go_simp; done) | (go_simp; rfl)); intro gb559 hg w17 hbox hb; replace HO545 := zrb HO545 hb rfl; replace HO548 := zrb HO548 hb rfl; replace HO554 := zrb HO554 hb rfl; replace HO557 := zrb HO557 hb rfl; have BK559 := zA (hbox); have GW559 := zA ((by rw [hg]; exact (below_size (zb HB rfl)) : w.heap.size ≤ gb559)); have GE559 := zA ((by rw [hg]; exact (below_size (zb HB rfl)) : w.heap.size ≤ gb559)); replace HB := zbb HB hb rfl; have NB550_559 := zA ((by rw [hg]; exact Nat.ne_of_lt (blk_lt BK550.out) : gb550 ≠ gb559)); have NB559_550 := zA ((by rw [hg]; exact Nat.ne_of_gt (blk_lt BK550.out) : gb559 ≠ gb550)); replace BK550 := zkb BK550 hb; clear hb hbox hg; have hnb18 := NB559_550.out; have hnc18 := NB550_559.out; have hcz19_0 := zc BK559 0 (v := .bool false) rfl; have hcz19_1 := zc BK559 1 (v := .slice none 0 0) rfl; have hcz19_2 := zc BK559 2 (v := .slice none 0 0) rfl; have hfz19_0 := zF BK559 0; have hfz19_1 := zF BK559 1; have hfz19_2 := zF BK559 2; obtain ⟨Ao20, co20, eo20⟩ := Kd.R_slice HO554.out; subst eo20; obtain ⟨Ao21, co21, eo21⟩ := Kd.R_slice HO557.out; subst eo21; have hcz22_0 := zc BK550 0 (v := .bool t542) rfl; have hcz22_1 := zc BK550 1 (v := .slice Ao14 t543.length co14) rfl; have hcz22_2 := zc BK550 2 (v := .slice Ao15 t546.length co15) rfl; have hfz22_0 := zF BK550 0; have hfz22_1 := zF BK550 1; have hfz22_2 := zF BK550 2) | (go_at_call 18; clear M335_0; (with_reducible refine (rational_Format.calls k t542 _ _ t543 _ _ t546 t560 _ ?side1 ?side2 ?side3 ?side4 A5.out).mono ?_); (case side1 => refine (Kd.R_reads' (e := 37) (base := w.heap.size) (ok := fun k_ => ((some k_ ≠ (.slice Ao15 t546.length co15 : Value).ownBlock ∧ some k_ ≠ (.slice Ao20 t552.length co20 : Value).ownBlock) ∧ some k_ ≠ (.slice Ao21 t555.length co21 : Value).ownBlock)) (n := t543.length) (c := co14) ?_).2.2; exact (zR ((Kd.R_mono (Kd.R_far (p := ⟨gb559, 2, none⟩) (Kd.R_far (p := ⟨gb559, 1, none⟩) (Kd.R_far (p := ⟨gb559, 0, none⟩) (Kd.R_types HO545.out BK559.out (by decide)) (fun _ hk => hk.2) (.bool t551)) (fun _ hk => hk.2) (.slice Ao20 t552.length co20)) (fun _ hk => hk.2) (.slice Ao21 t555.length co21)) (fun _ h_ => h_.1))))); (case side2 => exact (Kd.R_reads' HO545.out).2.1); (case side3 => refine (Kd.R_reads' (e := 37) (base := w.heap.size) (ok := fun k_ => ((some k_ ≠ (.slice Ao14 t543.length co14 : Value).ownBlock ∧ some k_ ≠ (.slice Ao20 t552.length co20 : Value).ownBlock) ∧ some k_ ≠ (.slice Ao21 t555.length co21 : Value).ownBlock)) (n := t546.length) (c := co15) ?_).2.2; exact (zR ((Kd.R_mono (Kd.R_far (p := ⟨gb559, 2, none⟩) (Kd.R_far (p := ⟨gb559, 1, none⟩) (Kd.R_far (p := ⟨gb559, 0, none⟩) (Kd.R_types HO548.out BK559.out (by decide)) (fun _ hk => hk.2) (.bool t551)) (fun _ hk => hk.2) (.slice Ao20 t552.length co20)) (fun _ hk => hk.2) (.slice Ao21 t555.length co21)) (fun _ h_ => h_.1))))); (case side4 => exact (Kd.R_reads' HO548.out).2.1); rintro e w23 ⟨rfl, hb⟩; replace HO545 := zA (Kd.R_below (zR ((Kd.R_mono (Kd.R_far (p := ⟨gb559, 2, none⟩) (Kd.R_far (p := ⟨gb559, 1, none⟩) (Kd.R_far (p := ⟨gb559, 0, none⟩) (Kd.R_types HO545.out BK559.out (by decide)) (fun _ hk => hk.2) (.bool t551)) (fun _ hk => hk.2) (.slice Ao20 t552.length co20)) (fun _ hk => hk.2) (.slice Ao21 t555.length co21)) (fun _ h_ => h_.1)))) hb); replace HO548 := zA (Kd.R_below (zR ((Kd.R_mono (Kd.R_far (p := ⟨gb559, 2, none⟩) (Kd.R_far (p := ⟨gb559, 1, none⟩) (Kd.R_far (p := ⟨gb559, 0, none⟩) (Kd.R_types HO548.out BK559.out (by decide)) (fun _ hk => hk.2) (.bool t551)) (fun _ hk => hk.2) (.slice Ao20 t552.length co20)) (fun _ hk => hk.2) (.slice Ao21 t555.length co21)) (fun _ h_ => h_.1)))) hb); replace HO554 := zA (Kd.R_below (zR ((Kd.R_mono (Kd.R_far (p := ⟨gb559, 2, none⟩) (Kd.R_far (p := ⟨gb559, 1, none⟩) (Kd.R_far (p := ⟨gb559, 0, none⟩) (Kd.R_types HO554.out BK559.out (by decide)) (fun _ hk => hk.2) (.bool t551)) (fun _ hk => hk.2) (.slice Ao20 t552.length co20)) (fun _ hk => hk.2) (.slice Ao21 t555.length co21)) (fun _ h_ => h_.1)))) hb); replace HO557 := zA (Kd.R_below (zR ((Kd.R_mono (Kd.R_far (p := ⟨gb559, 2, none⟩) (Kd.R_far (p := ⟨gb559, 1, none⟩) (Kd.R_far (p := ⟨gb559, 0, none⟩) (Kd.R_types HO557.out BK559.out (by decide)) (fun _ hk => hk.2) (.bool t551)) (fun _ hk => hk.2) (.slice Ao20 t552.length co20)) (fun _ hk => hk.2) (.slice Ao21 t555.length co21)) (fun _ h_ => h_.1)))) hb); replace BK550 := zA (blk_below (g := gb550) (o := .cells #[.bool t542, .slice Ao14 t543.length co14, .slice Ao15 t546.length co15] 25 (0, 0)) (by (with_reducible repeat (first | refine blk_drewN ?_ _ | refine blk_drew ?_ | refine blk_alloc ?_ _)); refine blk_far ?_ NB550_559.out _; (with_reducible repeat (first | refine blk_drewN ?_ _ | refine blk_drew ?_ | refine blk_alloc ?_ _)); refine blk_far ?_ NB550_559.out _; (with_reducible repeat (first | refine blk_drewN ?_ _ | refine blk_drew ?_ | refine blk_alloc ?_ _)); refine blk_far ?_ NB550_559.out _; (with_reducible repeat (first | refine blk_drewN ?_ _ | refine blk_drew ?_ | refine blk_alloc ?_ _)); exact BK550.out) hb); replace BK559 := zA (blk_below (g := gb559) (o := .cells #[.bool t551, .slice Ao20 t552.length co20, .slice Ao21 t555.length co21] 25 (0, 0)) (by (with_reducible repeat (first | refine blk_drewN ?_ _ | refine blk_drew ?_ | refine blk_alloc ?_ _)); refine blk_put (cs := #[.bool t551, .slice Ao20 t552.length co20, .slice none 0 0]) ?_ 2 _ rfl; (with_reducible repeat (first | refine blk_drewN ?_ _ | refine blk_drew ?_ | refine blk_alloc ?_ _)); refine blk_put (cs := #[.bool t551, .slice none 0 0, .slice none 0 0]) ?_ 1 _ rfl; (with_reducible repeat (first | refine blk_drewN ?_ _ | refine blk_drew ?_ | refine blk_alloc ?_ _)); refine blk_put (cs := #[.bool false, .slice none 0 0, .slice none 0 0]) ?_ 0 _ rfl; (with_reducible repeat (first | refine blk_drewN ?_ _ | refine blk_drew ?_ | refine blk_alloc ?_ _)); exact BK559.out) hb); replace HB := zA (below_step (zG2 GE550.out GE559.out) hb); have hcz24_0 := zc BK550 0 (v := .bool t542) rfl; have hcz24_1 := zc BK550 1 (v := .slice Ao14 t543.length co14) rfl; have hcz24_2 := zc BK550 2 (v := .slice Ao15 t546.length co15) rfl; have hfz24_0 := zF BK550 0; have hfz24_1 := zF BK550 1; have hfz24_2 := zF BK550 2; have hcz25_0 := zc BK559 0 (v := .bool t551) rfl; have hcz25_1 := zc BK559 1 (v := .slice Ao20 t552.length co20) rfl; have hcz25_2 := zc BK559 2 (v := .slice Ao21 t555.length co21) rfl; have hfz25_0 := zF BK559 0; have hfz25_1 := zF BK559 1; have hfz25_2 := zF BK559 2) | (go_at_call 23; (with_reducible refine (rational_Add.calls k t542 _ _ t543 _ _ t546 t551 _ _ t552 _ _ t555 t561 t562 t565 _ ?side1 ?side2 ?side3 ?side4 ?side5 ?side6 ?side7 ?side8 A7.out).mono ?_); (case side1 => exact zC (Kd.R_reads' HO545.out).2.2); (case side2 => exact (Kd.R_reads' HO545.out).2.1); (case side3 => exact zC (Kd.R_reads' HO548.out).2.2); (case side4 => exact (Kd.R_reads' HO548.out).2.1); (case side5 => exact zC (Kd.R_reads' HO554.out).2.2); (case side6 => exact (Kd.R_reads' HO554.out).2.1); (case side7 => exact zC (Kd.R_reads' HO557.out).2.2); (case side8 => exact (Kd.R_reads' HO557.out).2.1); rintro e w26 ⟨v563, v566, rfl, ho0, ho1, hb⟩; have HO564 := zA (Kd.R_lower (Kd.R_new' (Kd.R_new' (Kd.R_new' (Kd.R_new' ho0 (Kd.R_lt (zr HO545 rfl))) (Kd.R_lt (zr HO548 rfl))) (Kd.R_lt (zr HO554 rfl))) (Kd.R_lt (zr HO557 rfl))) (below_size (zb HB rfl))); have HO567 := zA (Kd.R_lower (Kd.R_new' (Kd.R_new' (Kd.R_new' (Kd.R_new' ho1 (Kd.R_lt (zr HO545 rfl))) (Kd.R_lt (zr HO548 rfl))) (Kd.R_lt (zr HO554 rfl))) (Kd.R_lt (zr HO557 rfl))) (below_size (zb HB rfl))); replace HO545 := zA (Kd.R_mono (Kd.R_told (Kd.R_told (Kd.R_old (zr HO545 rfl) hb) (Kd.R_base ho0)) (Kd.R_base ho1)) (fun _ h_ => h_.1)); replace HO548 := zA (Kd.R_mono (Kd.R_told (Kd.R_told (Kd.R_old (zr HO548 rfl) hb) (Kd.R_base ho0)) (Kd.R_base ho1)) (fun _ h_ => h_.1)); replace HO554 := zA (Kd.R_mono (Kd.R_told (Kd.R_told (Kd.R_old (zr HO554 rfl) hb) (Kd.R_base ho0)) (Kd.R_base ho1)) (fun _ h_ => h_.1)); replace HO557 := zA (Kd.R_mono (Kd.R_told (Kd.R_told (Kd.R_old (zr HO557 rfl) hb) (Kd.R_base ho0)) (Kd.R_base ho1)) (fun _ h_ => h_.1)); replace BK550 := zkb BK550 hb; replace BK559 := zkb BK559 hb; replace HB := zbb HB hb rfl; obtain ⟨Ao27, co27, eo27⟩ := Kd.R_slice HO564.out; subst eo27; obtain ⟨Ao28, co28, eo28⟩ := Kd.R_slice HO567.out; subst eo28) | (go_at_call 18; clear M335_1; (with_reducible refine (rational_Format.calls k t561 _ _ t562 _ _ t565 t568 _ ?side1 ?side2 ?side3 ?side4 A8.out).mono ?_); (case side1 => exact zC (Kd.R_reads' HO564.out).2.2); (case side2 => exact (Kd.R_reads' HO564.out).2.1); (case side3 => exact zC (Kd.R_reads' HO567.out).2.2); (case side4 => exact (Kd.R_reads' HO567.out).2.1); rintro e w29 ⟨rfl, hb⟩; replace HO545 := zrb HO545 hb rfl; replace HO548 := zrb HO548 hb rfl; replace HO554 := zrb HO554 hb rfl; replace HO557 := zrb HO557 hb rfl; replace HO564 := zrb HO564 hb rfl; replace HO567 := zrb HO567 hb rfl; replace BK550 := zkb BK550 hb; replace BK559 := zkb BK559 hb; replace HB := zbb HB hb rfl; have hcz30_0 := zc BK550 0 (v := .bool t542) rfl; have hcz30_1 := zc BK550 1 (v := .slice Ao14 t543.length co14) rfl; have hcz30_2 := zc BK550 2 (v := .slice Ao15 t546.length co15) rfl; have hfz30_0 := zF BK550 0; have hfz30_1 := zF BK550 1; have hfz30_2 := zF BK550 2; have hcz31_0 := zc BK559 0 (v := .bool t551) rfl; have hcz31_1 := zc BK559 1 (v := .slice Ao20 t552.length co20) rfl; have hcz31_2 := zc BK559 2 (v := .slice Ao21 t555.length co21) rfl; have hfz31_0 := zF BK559 0; have hfz31_1 := zF BK559 1; have hfz31_2 := zF BK559 2) | (go_at_call 26; (with_reducible refine (rational_Cmp.calls k t542 _ _ t543 _ _ t546 t551 _ _ t552 _ _ t555 t569 _ ?side1 ?side2 ?side3 ?side4 ?side5 ?side6 ?side7 ?side8 A10.out).mono ?_); (case side1 => exact zC (Kd.R_reads' HO545.out).2.2); (case side2 => exact (Kd.R_reads' HO545.out).2.1); (case side3 => exact zC (Kd.R_reads' HO548.out).2.2); (case side4 => exact (Kd.R_reads' HO548.out).2.1); (case side5 => exact zC (Kd.R_reads' HO554.out).2.2); (case side6 => exact (Kd.R_reads' HO554.out).2.1); (case side7 => exact zC (Kd.R_reads' HO557.out).2.2); (case side8 => exact (Kd.R_reads' HO557.out).2.1); rintro e w32 ⟨rfl, hb⟩; replace HO545 := zrb HO545 hb rfl; replace HO548 := zrb HO548 hb rfl; replace HO554 := zrb HO554 hb rfl; replace HO557 := zrb HO557 hb rfl; replace HO564 := zrb HO564 hb rfl; replace HO567 := zrb HO567 hb rfl; replace BK550 := zkb BK550 hb; replace BK559 := zkb BK559 hb; replace HB := zbb HB hb rfl))
     go_ret
     exact ⟨zE, zG2 GE550.out GE559.out⟩
    rw [if_neg c9] at H
    cases H
   rw [if_neg c6] at H
   cases H
  rw [if_neg c4] at H
  cases H
 rw [if_neg c3] at H
 cases H

mutual
def credencebase_Nat.l0 : Nat → List Int → List Int → Int → Option (List Int)
 | 0, _, _, _ => none
 | k + 1, x0, x3, x4 => if x4 < (x0.length : Int) then (credencebase_Nat.j1 k x0 x3 x4 (decide (x4 < 8))) else (credencebase_Nat.j1 k x0 x3 x4 false)
def credencebase_Nat.j1 : Nat → List Int → List Int → Int → Bool → Option (List Int)
 | 0, _, _, _, _ => none
 | k + 1, x0, x3, x4, x13 => if x13 = true then (if 0 ≤ x4 then (if x4 < (x0.length : Int) then (if (Go.bits .and .u32 (rd x0 x4) 7) = 7 then (if x3.length < 35184372088832 then (credencebase_Nat.l0 k x0 (x3 ++ [(4294967295 - ((rd x0 x4) / 268435456)) % 4294967296]) (wrap64 (x4 + 1))) else (none)) else (if x3.length < 35184372088832 then (credencebase_Nat.l0 k x0 (x3 ++ [rd x0 x4]) (wrap64 (x4 + 1))) else (none))) else (none)) else (none)) else (some x3)
end
def credencebase_Nat.f (k : Nat) (l0 : List Int) : Option (List Int) := credencebase_Nat.l0 k l0 ([] : List Int) 0
set_option maxHeartbeats 8000000 in
set_option maxRecDepth 100000 in
theorem credencebase_Nat.calls (k : Nat) (A0 : Option Addr) (c0 : Nat) (l0 : List Int) (r : List Int) (w : World) (hr0 : Kd.C (Kd.int .u32) w A0 l0.length l0) (hc0 : l0.length ≤ c0) (h : credencebase_Nat.f k l0 = some r) :
 Calls Tryd.prog 51 #[.slice A0 l0.length c0] w fun e w' => ∃ v0_ : Value, e = .returned (v0_) ∧ Kd.R (Kd.int .u32) 37 w' w.heap.size (fun _ => True) v0_ r ∧ Below w.heap.size w w' := by
 have HR0 := zA hr0
 have HC0 := zA hc0
 clear hr0 hc0
 have HB := zA (Below.refl w.heap.size w)
 have H : (credencebase_Nat.l0 k l0 ([] : List Int) 0) = some r := h
 clear h
 have H' := zA H
 clear H
 go_enter Tryd.func51, Tryd.ntmps51
 go_wp2
 go_loopg [3, 4] k (fun kq v3 v4 w' => ∃ (x3_1 : List Int) (x4_1 : Int), v4 = .int .i64 x4_1 ∧ Aside0 (credencebase_Nat.l0 kq l0 x3_1 x4_1 = some r) ∧ Aside0 (kq ≤ k) ∧ Aside0 (Kd.R (Kd.int .u32) 37 w' w.heap.size (fun _ => True) v3 x3_1) ∧ Aside0 (Below w.heap.size w w'))
 case atStart => exact ⟨(([] : List Int)), (0), zS, H', ⟨Nat.le_refl _⟩, ⟨by first | exact Kd.R_nil _ _ _ _ _ | exact Kd.V_nil _ _ _ _ _⟩, ⟨zH⟩⟩
 case round =>
  clear H'
  obtain ⟨x3_1, x4_1, rfl, HA, HK1, HO_3, HB⟩ := hrel
  cases gk with
  | zero => exact absurd HA.out (by simp [credencebase_Nat.l0])
  | succ k1 =>
   have H := HA.out
   clear HA
   simp only [credencebase_Nat.l0] at H
   have HC2 := zA H
   clear H
   go_upto_region 3 with (fail)
   go_cut [13] (fun v13 wc => ∃ (kq : Nat) (x13_1 : Bool), v13 = .bool x13_1 ∧ Aside0 (credencebase_Nat.j1 kq l0 x3_1 x4_1 x13_1 = some r) ∧ Aside0 (kq ≤ k1) ∧ Aside0 (Kd.R (Kd.int .u32) 37 wc w.heap.size (fun _ => True) u3 x3_1) ∧ Aside0 (Below w.heap.size w wc))
   case first =>
    have H := HC2.out
    clear HC2
    by_cases c3 : x4_1 < (l0.length : Int)
    ·
     rw [if_pos c3] at H
     have c3b0 := decide_eq_true c3
     clear c3
     (first | rw [c3b0] | rw [c3b1] | (simp only [i64_w, i32_w]; rw [c3b0]) | skip)
     have H' := zA H
     clear H
     go_wp2
     go_meet
     case rel => exact ⟨_, (decide (x4_1 < 8)), zS, H', ⟨by have := HK1.out; first | omega | exact Nat.le_refl _⟩, ⟨zR HO_3.out⟩, ⟨zH⟩⟩
    rw [if_neg c3] at H
    have c3b0 := decide_eq_false c3
    clear c3
    (first | rw [c3b0] | rw [c3b1] | (simp only [i64_w, i32_w]; rw [c3b0]) | skip)
    have H' := zA H
    clear H
    go_wp2
    go_meet
    case rel => exact ⟨_, (false), zS, H', ⟨by have := HK1.out; first | omega | exact Nat.le_refl _⟩, ⟨zR HO_3.out⟩, ⟨zH⟩⟩
   case rest =>
    clear HC2
    try clear p2
    try clear c3
    try clear c3b0
    obtain ⟨kq, x13_1, rfl, HA, HJ1, HO_3, HB⟩ := hcut
    cases kq with
    | zero => exact absurd HA.out (by simp [credencebase_Nat.j1])
    | succ kj1 =>
     have H := HA.out
     clear HA
     simp only [credencebase_Nat.j1] at H
     by_cases c4 : x13_1 = true
     ·
      subst c4
      have H1 : (if 0 ≤ x4_1 then (if x4_1 < (l0.length : Int) then (if (Go.bits .and .u32 (rd l0 x4_1) 7) = 7 then (if x3_1.length < 35184372088832 then (credencebase_Nat.l0 kj1 l0 (x3_1 ++ [(4294967295 - ((rd l0 x4_1) / 268435456)) % 4294967296]) (wrap64 (x4_1 + 1))) else (none)) else (if x3_1.length < 35184372088832 then (credencebase_Nat.l0 kj1 l0 (x3_1 ++ [rd l0 x4_1]) (wrap64 (x4_1 + 1))) else (none))) else (none)) else (none)) = some r := by rw [if_pos rfl] at H; exact H
      clear H
      have H := H1
      clear H1
      by_cases c5 : 0 ≤ x4_1
      ·
       rw [if_pos c5] at H
       have c5b0 := decide_eq_true c5
       clear c5
       by_cases c6 : x4_1 < (l0.length : Int)
       ·
        rw [if_pos c6] at H
        have c6b0 := decide_eq_true c6
        clear c6
        by_cases c7 : (Go.bits .and .u32 (rd l0 x4_1) 7) = 7
        ·
         rw [if_pos c7] at H
         have c7b0 := beq_iff_eq.mpr c7
         have c7b1 := bne_eq_false_iff_eq.mpr c7
         clear c7
         by_cases c8 : x3_1.length < 35184372088832
         ·
          rw [if_pos c8] at H
          have LMc8 := zA c8
          clear c8
          obtain ⟨y571, hy571⟩ : ∃ y_ : List Int, y_ = (x3_1 ++ [(4294967295 - ((rd l0 x4_1) / 268435456)) % 4294967296]) := ⟨_, rfl⟩
          replace H : (credencebase_Nat.l0 kj1 l0 y571 (wrap64 (x4_1 + 1))) = some r := by first | (rw [hy571]; with_reducible exact H) | (have H2_ := (Option.bind_some _ _).symm.trans H; rw [hy571]; with_reducible exact H2_) | (have H2_ := (Option.bind_some _ _).symm.trans H; with_reducible exact H2_) | with_reducible exact H | (rw [hy571]; exact H) | exact H
          have Ny571 := zA hy571
          clear hy571
          have H' := zA H
          clear H
          have p570 : 0 ≤ (x4_1 : Int) := zD
          have q570 : x4_1 < (l0.length : Int) := zD
          obtain ⟨ad570, e570, hx570_0⟩ := Kd.at_int HR0.out x4_1 p570 q570
          cases e570
          replace hx570_0 := (HB.out.cell (World.block_lt_of_cell? w _ hx570_0)).trans hx570_0
          replace p570 := eq_true p570
          replace q570 := eq_true q570
          go_wp2_with (first | ((with_reducible refine gate_builtin (b := .append) (xs := #[.tmp 26, .tmp 28]) rfl ?_); at_builtin; refine Kd.R_append (Kd.int .u32) (w0 := w) w.heap.size rfl (.tmp 26) (.tmp 28) 23 37 (.int .u32 0) 4 rfl Tryd.underlying23 info37 rfl (by decide) (by omega) u3 x3_1 ((4294967295 - ((rd l0 x4_1) / 268435456)) % 4294967296) [.int .u32 ((4294967295 - ((rd l0 x4_1) / 268435456)) % 4294967296)] (fun _ => True) (fun _ => False) rfl rfl ?aP (fun _ hk => hk.elim) ?aF ?aO ?aB ?aS ?aL ?_; (case aP => exact rfl); (case aB => exact zH); (case aF => exact (fun _ _ => trivial)); (case aO => exact (zR HO_3.out)); (case aS => exact (below_size zH)); (case aL => have := LMc8.out; omega); intro v572 w9 ho hb hg hat; rw [← Ny571.out] at ho; replace HB := zA (hb); have HO573 := zA (ho); clear HO_3; clear ho hb hg hat))
          go_roundg kj1
          case measure => have := HK1.out; have := HJ1.out; omega
          case rel => exact ⟨(y571), (wrap64 (x4_1 + 1)), zS, H', ⟨by have := HK1.out; have := HJ1.out; omega⟩, ⟨zR HO573.out⟩, ⟨zH⟩⟩
         rw [if_neg c8] at H
         cases H
        rw [if_neg c7] at H
        have c7b0 := beq_eq_false_iff_ne.mpr c7
        have c7b1 := bne_iff_ne.mpr c7
        by_cases c10 : x3_1.length < 35184372088832
        ·
         rw [if_pos c10] at H
         have LMc10 := zA c10
         clear c10
         obtain ⟨y574, hy574⟩ : ∃ y_ : List Int, y_ = (x3_1 ++ [rd l0 x4_1]) := ⟨_, rfl⟩
         replace H : (credencebase_Nat.l0 kj1 l0 y574 (wrap64 (x4_1 + 1))) = some r := by first | (rw [hy574]; with_reducible exact H) | (have H2_ := (Option.bind_some _ _).symm.trans H; rw [hy574]; with_reducible exact H2_) | (have H2_ := (Option.bind_some _ _).symm.trans H; with_reducible exact H2_) | with_reducible exact H | (rw [hy574]; exact H) | exact H
         have Ny574 := zA hy574
         clear hy574
         have H' := zA H
         clear H
         have p570 : 0 ≤ (x4_1 : Int) := zD
         have q570 : x4_1 < (l0.length : Int) := zD
         obtain ⟨ad570, e570, hx570_0⟩ := Kd.at_int HR0.out x4_1 p570 q570
         cases e570
         replace hx570_0 := (HB.out.cell (World.block_lt_of_cell? w _ hx570_0)).trans hx570_0
         replace p570 := eq_true p570
         replace q570 := eq_true q570
         go_wp2_with (first | ((with_reducible refine gate_builtin (b := .append) (xs := #[.tmp 26, .tmp 28]) rfl ?_); at_builtin; refine Kd.R_append (Kd.int .u32) (w0 := w) w.heap.size rfl (.tmp 26) (.tmp 28) 23 37 (.int .u32 0) 4 rfl Tryd.underlying23 info37 rfl (by decide) (by omega) u3 x3_1 (rd l0 x4_1) [.int .u32 (rd l0 x4_1)] (fun _ => True) (fun _ => False) rfl rfl ?aP (fun _ hk => hk.elim) ?aF ?aO ?aB ?aS ?aL ?_; (case aP => exact rfl); (case aB => exact zH); (case aF => exact (fun _ _ => trivial)); (case aO => exact (zR HO_3.out)); (case aS => exact (below_size zH)); (case aL => have := LMc10.out; omega); intro v575 w11 ho hb hg hat; rw [← Ny574.out] at ho; replace HB := zA (hb); have HO576 := zA (ho); clear HO_3; clear ho hb hg hat))
         go_roundg kj1
         case measure => have := HK1.out; have := HJ1.out; omega
         case rel => exact ⟨(y574), (wrap64 (x4_1 + 1)), zS, H', ⟨by have := HK1.out; have := HJ1.out; omega⟩, ⟨zR HO576.out⟩, ⟨zH⟩⟩
        rw [if_neg c10] at H
        cases H
       rw [if_neg c6] at H
       cases H
      rw [if_neg c5] at H
      cases H
     replace c4 := Bool.eq_false_iff.mpr c4
     subst c4
     have H1 : (some x3_1) = some r := by rw [if_neg (show ¬ (false = true) by decide)] at H; exact H
     clear H
     have H := H1
     clear H1
     obtain rfl := Option.some.inj H
     go_wp2
     go_ret
     exact ⟨_, zE, zR HO_3.out, zH⟩

def credencelaw2_raw.f (k : Nat) (a0 : Bool) (l1 : List Int) (l2 : List Int) : Option (Bool × List Int × List Int) := (credencebase_Nat.f k l1).bind fun t578 => ((credencebase_Nat.f k l2).bind fun t581 => (some (a0, t578, t581)))
set_option maxHeartbeats 8000000 in
set_option maxRecDepth 100000 in
theorem credencelaw2_raw.calls (k : Nat) (a0 : Bool) (A1 : Option Addr) (c1 : Nat) (l1 : List Int) (A2 : Option Addr) (c2 : Nat) (l2 : List Int) (r1 : Bool) (r2 : List Int) (r3 : List Int) (w : World) (hr1 : Kd.C (Kd.int .u32) w A1 l1.length l1) (hc1 : l1.length ≤ c1) (hr2 : Kd.C (Kd.int .u32) w A2 l2.length l2) (hc2 : l2.length ≤ c2) (h : credencelaw2_raw.f k a0 l1 l2 = some (r1, r2, r3)) :
 Calls Tryd.prog 15 #[.bool a0, .slice A1 l1.length c1, .slice A2 l2.length c2] w fun e w' => ∃ v1_ v2_ : Value, e = .returned (.agg #[.bool r1, v1_, v2_]) ∧ Kd.R (Kd.int .u32) 37 w' w.heap.size (fun k_ => some k_ ≠ (v2_ : Value).ownBlock) v1_ r2 ∧ Kd.R (Kd.int .u32) 37 w' w.heap.size (fun k_ => some k_ ≠ (v1_ : Value).ownBlock) v2_ r3 ∧ Below w.heap.size w w' := by
 have hu25 := Tryd.underlying25
 have HR1 := zA hr1
 have HC1 := zA hc1
 clear hr1 hc1
 have HR2 := zA hr2
 have HC2 := zA hc2
 clear hr2 hc2
 have HB := zA (Below.refl w.heap.size w)
 have H : ((credencebase_Nat.f k l1).bind fun t578 => ((credencebase_Nat.f k l2).bind fun t581 => (some (a0, t578, t581)))) = some (r1, r2, r3) := h
 clear h
 obtain ⟨t578, A40, H⟩ := zi H
 replace H : ((credencebase_Nat.f k l2).bind fun t581 => (some (a0, t578, t581))) = some (r1, r2, r3) := H
 have A4 := zA A40
 clear A40
 obtain ⟨t581, A50, H⟩ := zi H
 replace H : (some (a0, t578, t581)) = some (r1, r2, r3) := H
 have A5 := zA A50
 clear A50
 simp only [Option.some.injEq, Prod.mk.injEq] at H
 obtain ⟨rfl, rfl, rfl⟩ := H
 go_enter Tryd.func15, Tryd.ntmps15
 go_wp2_with (first | ((with_reducible refine gate_dst (N := 6) rfl ?_); refine box_event ?hg (N := 6) ?hd (cs := #[.bool false, .slice none 0 0, .slice none 0 0]) (t := 25) ?hr ?_; (case hd => rfl); (case hg => rfl); (case hr => first | (go_simp; done) | (go_simp; rfl)); intro gb577 hg w6 hbox hb; have BK577 := zA (hbox); have GW577 := zA ((by rw [hg]; exact (below_size (zb HB rfl)) : w.heap.size ≤ gb577)); have GE577 := zA ((by rw [hg]; exact (below_size (zb HB rfl)) : w.heap.size ≤ gb577)); replace HB := zbb HB hb rfl; clear hb hbox hg) | ((with_reducible refine gate_callee (f := 51) rfl ?_); refine goesL_ (some 9) rfl rfl Tryd.func51 zk rfl #[.slice A1 l1.length c1] rfl zX ?_; (with_reducible refine (credencebase_Nat.calls k _ _ l1 t578 _ ?side1 ?side2 A4.out).mono ?_); (case side1 => exact zC (Kd.C_below HR1.out HB.out)); (case side2 => exact HC1.out); rintro e w7 ⟨v579, rfl, ho0, hb⟩; refine ⟨_, rfl, ?_⟩; have HO580 := zA (Kd.R_lower ho0 (below_size (zb HB rfl))); replace BK577 := zkb BK577 hb; replace HB := zbb HB hb rfl) | ((with_reducible refine gate_callee (f := 51) rfl ?_); refine goesL_ (some 11) rfl rfl Tryd.func51 zk rfl #[.slice A2 l2.length c2] rfl zX ?_; (with_reducible refine (credencebase_Nat.calls k _ _ l2 t581 _ ?side1 ?side2 A5.out).mono ?_); (case side1 => exact zC (Kd.C_below HR2.out HB.out)); (case side2 => exact HC2.out); rintro e w8 ⟨v582, rfl, ho0, hb⟩; refine ⟨_, rfl, ?_⟩; have HO583 := zA (Kd.R_lower (Kd.R_new' ho0 (Kd.R_lt (zr HO580 rfl))) (below_size (zb HB rfl))); replace HO580 := zA (Kd.R_elder' (zr HO580 rfl) (Kd.R_base ho0) hb); replace BK577 := zkb BK577 hb; replace HB := zbb HB hb rfl; obtain ⟨Ao9, co9, eo9⟩ := Kd.R_slice HO583.out; subst eo9; obtain ⟨Ao10, co10, eo10⟩ := Kd.R_slice HO580.out; subst eo10; have hcz11_0 := zc BK577 0 (v := .bool false) rfl; have hcz11_1 := zc BK577 1 (v := .slice none 0 0) rfl; have hcz11_2 := zc BK577 2 (v := .slice none 0 0) rfl; have hfz11_0 := zF BK577 0; have hfz11_1 := zF BK577 1; have hfz11_2 := zF BK577 2))
 refine bodyPost_ret (results_cell_row rfl _ _ gb577 25 #[.bool a0, .slice Ao10 t578.length co10, .slice Ao9 t581.length co9] (0, 0) _ rfl (by (with_reducible repeat (first | refine blk_drewN ?_ _ | refine blk_drew ?_ | refine blk_alloc ?_ _)); refine blk_put (cs := #[.bool a0, .slice Ao10 t578.length co10, .slice none 0 0]) ?_ 2 _ rfl; (with_reducible repeat (first | refine blk_drewN ?_ _ | refine blk_drew ?_ | refine blk_alloc ?_ _)); refine blk_put (cs := #[.bool a0, .slice none 0 0, .slice none 0 0]) ?_ 1 _ rfl; (with_reducible repeat (first | refine blk_drewN ?_ _ | refine blk_drew ?_ | refine blk_alloc ?_ _)); refine blk_put (cs := #[.bool false, .slice none 0 0, .slice none 0 0]) ?_ 0 _ rfl; (with_reducible repeat (first | refine blk_drewN ?_ _ | refine blk_drew ?_ | refine blk_alloc ?_ _)); exact BK577.out) Tryd.underlying25 rfl zk) rfl ?_
 exact ⟨_, _, zE, zRM (Kd.R_far (p := ⟨gb577, 2, none⟩) (Kd.R_far (p := ⟨gb577, 1, none⟩) (Kd.R_far (p := ⟨gb577, 0, none⟩) (Kd.R_types HO580.out BK577.out (by decide)) (fun _ hk => hk.2) (.bool a0)) (fun _ hk => hk.2) (.slice Ao10 t578.length co10)) (fun _ hk => hk.2) (.slice Ao9 t581.length co9)) (fun _ hk => hk.1.2), zRM (Kd.R_far (p := ⟨gb577, 2, none⟩) (Kd.R_far (p := ⟨gb577, 1, none⟩) (Kd.R_far (p := ⟨gb577, 0, none⟩) (Kd.R_types HO583.out BK577.out (by decide)) (fun _ hk => hk.2) (.bool a0)) (fun _ hk => hk.2) (.slice Ao10 t578.length co10)) (fun _ hk => hk.2) (.slice Ao9 t581.length co9)) (fun _ hk => hk.1.2), zG1 GE577.out⟩

def rational_Neg.f (k : Nat) (a0_0 : Bool) (l0_1 : List Int) (l0_2 : List Int) : Option (Bool × List Int × List Int) := (rational_reduce.f k (!a0_0) l0_1 l0_2).bind fun bt586 => (some (bt586.1, bt586.2.1, bt586.2.2))
set_option maxHeartbeats 8000000 in
set_option maxRecDepth 100000 in
theorem rational_Neg.calls (k : Nat) (a0_0 : Bool) (A0_1 : Option Addr) (c0_1 : Nat) (l0_1 : List Int) (A0_2 : Option Addr) (c0_2 : Nat) (l0_2 : List Int) (r1 : Bool) (r2 : List Int) (r3 : List Int) (w : World) (hr0_1 : Kd.C (Kd.int .u32) w A0_1 l0_1.length l0_1) (hc0_1 : l0_1.length ≤ c0_1) (hr0_2 : Kd.C (Kd.int .u32) w A0_2 l0_2.length l0_2) (hc0_2 : l0_2.length ≤ c0_2) (h : rational_Neg.f k a0_0 l0_1 l0_2 = some (r1, r2, r3)) :
 Calls Tryd.prog 24 #[.agg #[.bool a0_0, .slice A0_1 l0_1.length c0_1, .slice A0_2 l0_2.length c0_2]] w fun e w' => ∃ v1_ v2_ : Value, e = .returned (.agg #[.bool r1, v1_, v2_]) ∧ Kd.R (Kd.int .u32) 37 w' w.heap.size (fun k_ => some k_ ≠ (v2_ : Value).ownBlock) v1_ r2 ∧ Kd.R (Kd.int .u32) 37 w' w.heap.size (fun k_ => some k_ ≠ (v1_ : Value).ownBlock) v2_ r3 ∧ Below w.heap.size w w' := by
 have hu25 := Tryd.underlying25
 have HR0_1 := zA hr0_1
 have HC0_1 := zA hc0_1
 clear hr0_1 hc0_1
 have HR0_2 := zA hr0_2
 have HC0_2 := zA hc0_2
 clear hr0_2 hc0_2
 have HB := zA (Below.refl w.heap.size w)
 have H : ((rational_reduce.f k (!a0_0) l0_1 l0_2).bind fun bt586 => (some (bt586.1, bt586.2.1, bt586.2.2))) = some (r1, r2, r3) := h
 clear h
 obtain ⟨⟨t586, t587, t590⟩, A20, H⟩ := zi H
 replace H : (some (t586, t587, t590)) = some (r1, r2, r3) := H
 have A2 := zA A20
 clear A20
 simp only [Option.some.injEq, Prod.mk.injEq] at H
 obtain ⟨rfl, rfl, rfl⟩ := H
 go_enter Tryd.func24, Tryd.ntmps24
 go_wp2_with (first | ((with_reducible refine gate_dst (N := 1) rfl ?_); refine box_event ?hg (N := 1) ?hd (cs := #[.bool a0_0, .slice A0_1 l0_1.length c0_1, .slice A0_2 l0_2.length c0_2]) (t := 25) ?hr ?_; (case hd => rfl); (case hg => rfl); (case hr => first | (go_simp; done) | (go_simp; rfl)); intro gb584 hg w3 hbox hb; have BK584 := zA (hbox); have GW584 := zA ((by rw [hg]; exact (below_size (zb HB rfl)) : w.heap.size ≤ gb584)); have GE584 := zA ((by rw [hg]; exact (below_size (zb HB rfl)) : w.heap.size ≤ gb584)); replace HB := zbb HB hb rfl; clear hb hbox hg) | ((with_reducible refine gate_dst (N := 2) rfl ?_); refine box_event ?hg (N := 2) ?hd (cs := #[.bool false, .slice none 0 0, .slice none 0 0]) (t := 25) ?hr ?_; (case hd => rfl); (case hg => rfl); (case hr => first | (go_simp; done) | (go_simp; rfl)); intro gb585 hg w4 hbox hb; have BK585 := zA (hbox); have GW585 := zA ((by rw [hg]; exact (below_size (zb HB rfl)) : w.heap.size ≤ gb585)); have GE585 := zA ((by rw [hg]; exact (below_size (zb HB rfl)) : w.heap.size ≤ gb585)); replace HB := zbb HB hb rfl; have NB584_585 := zA ((by rw [hg]; exact Nat.ne_of_lt (blk_lt BK584.out) : gb584 ≠ gb585)); have NB585_584 := zA ((by rw [hg]; exact Nat.ne_of_gt (blk_lt BK584.out) : gb585 ≠ gb584)); replace BK584 := zkb BK584 hb; clear hb hbox hg; have hnb5 := NB584_585.out; have hnc5 := NB585_584.out; have hcz6_0 := zc BK584 0 (v := .bool a0_0) rfl; have hcz6_1 := zc BK584 1 (v := .slice A0_1 l0_1.length c0_1) rfl; have hcz6_2 := zc BK584 2 (v := .slice A0_2 l0_2.length c0_2) rfl; have hfz6_0 := zF BK584 0; have hfz6_1 := zF BK584 1; have hfz6_2 := zF BK584 2) | ((with_reducible refine gate_callee (f := 46) rfl ?_); refine goesL_ (some 10) rfl rfl Tryd.func46 zk rfl #[.bool (!a0_0), .slice A0_1 l0_1.length c0_1, .slice A0_2 l0_2.length c0_2] rfl zX ?_; (with_reducible refine (rational_reduce.calls k (!a0_0) _ _ l0_1 _ _ l0_2 t586 t587 t590 _ ?side1 ?side2 ?side3 ?side4 A2.out).mono ?_); (case side1 => exact zC (Kd.C_below HR0_1.out HB.out)); (case side2 => exact HC0_1.out); (case side3 => exact zC (Kd.C_below HR0_2.out HB.out)); (case side4 => exact HC0_2.out); rintro e w7 ⟨v588, v591, rfl, ho0, ho1, hb⟩; refine ⟨_, rfl, ?_⟩; have HO589 := zA (Kd.R_lower ho0 (below_size (zb HB rfl))); have HO592 := zA (Kd.R_lower ho1 (below_size (zb HB rfl))); replace BK584 := zkb BK584 hb; replace BK585 := zkb BK585 hb; replace HB := zbb HB hb rfl; have hcz8_0 := zc BK585 0 (v := .bool false) rfl; have hcz8_1 := zc BK585 1 (v := .slice none 0 0) rfl; have hcz8_2 := zc BK585 2 (v := .slice none 0 0) rfl; have hfz8_0 := zF BK585 0; have hfz8_1 := zF BK585 1; have hfz8_2 := zF BK585 2; obtain ⟨Ao9, co9, eo9⟩ := Kd.R_slice HO589.out; subst eo9; obtain ⟨Ao10, co10, eo10⟩ := Kd.R_slice HO592.out; subst eo10))
 refine bodyPost_ret (results_cell_row rfl _ _ gb585 25 #[.bool t586, .slice Ao9 t587.length co9, .slice Ao10 t590.length co10] (0, 0) _ rfl (by (with_reducible repeat (first | refine blk_drewN ?_ _ | refine blk_drew ?_ | refine blk_alloc ?_ _)); refine blk_put (cs := #[.bool t586, .slice Ao9 t587.length co9, .slice none 0 0]) ?_ 2 _ rfl; (with_reducible repeat (first | refine blk_drewN ?_ _ | refine blk_drew ?_ | refine blk_alloc ?_ _)); refine blk_put (cs := #[.bool t586, .slice none 0 0, .slice none 0 0]) ?_ 1 _ rfl; (with_reducible repeat (first | refine blk_drewN ?_ _ | refine blk_drew ?_ | refine blk_alloc ?_ _)); refine blk_put (cs := #[.bool false, .slice none 0 0, .slice none 0 0]) ?_ 0 _ rfl; (with_reducible repeat (first | refine blk_drewN ?_ _ | refine blk_drew ?_ | refine blk_alloc ?_ _)); exact BK585.out) Tryd.underlying25 rfl zk) rfl ?_
 exact ⟨_, _, zE, zRM (Kd.R_far (p := ⟨gb585, 2, none⟩) (Kd.R_far (p := ⟨gb585, 1, none⟩) (Kd.R_far (p := ⟨gb585, 0, none⟩) (Kd.R_types HO589.out BK585.out (by decide)) (fun _ hk => hk.2) (.bool t586)) (fun _ hk => hk.2) (.slice Ao9 t587.length co9)) (fun _ hk => hk.2) (.slice Ao10 t590.length co10)) (fun _ hk => hk.1), zRM (Kd.R_far (p := ⟨gb585, 2, none⟩) (Kd.R_far (p := ⟨gb585, 1, none⟩) (Kd.R_far (p := ⟨gb585, 0, none⟩) (Kd.R_types HO592.out BK585.out (by decide)) (fun _ hk => hk.2) (.bool t586)) (fun _ hk => hk.2) (.slice Ao9 t587.length co9)) (fun _ hk => hk.2) (.slice Ao10 t590.length co10)) (fun _ hk => hk.1), zG2 GE584.out GE585.out⟩

def rational_Sub.f (k : Nat) (a0_0 : Bool) (l0_1 : List Int) (l0_2 : List Int) (a1_0 : Bool) (l1_1 : List Int) (l1_2 : List Int) : Option (Bool × List Int × List Int) := (rational_Neg.f k a1_0 l1_1 l1_2).bind fun bt596 => ((rational_Add.f k a0_0 l0_1 l0_2 bt596.1 bt596.2.1 bt596.2.2).bind fun bt603 => (some (bt603.1, bt603.2.1, bt603.2.2)))
set_option maxHeartbeats 8000000 in
set_option maxRecDepth 100000 in
theorem rational_Sub.calls (k : Nat) (a0_0 : Bool) (A0_1 : Option Addr) (c0_1 : Nat) (l0_1 : List Int) (A0_2 : Option Addr) (c0_2 : Nat) (l0_2 : List Int) (a1_0 : Bool) (A1_1 : Option Addr) (c1_1 : Nat) (l1_1 : List Int) (A1_2 : Option Addr) (c1_2 : Nat) (l1_2 : List Int) (r1 : Bool) (r2 : List Int) (r3 : List Int) (w : World) (hr0_1 : Kd.C (Kd.int .u32) w A0_1 l0_1.length l0_1) (hc0_1 : l0_1.length ≤ c0_1) (hr0_2 : Kd.C (Kd.int .u32) w A0_2 l0_2.length l0_2) (hc0_2 : l0_2.length ≤ c0_2) (hr1_1 : Kd.C (Kd.int .u32) w A1_1 l1_1.length l1_1) (hc1_1 : l1_1.length ≤ c1_1) (hr1_2 : Kd.C (Kd.int .u32) w A1_2 l1_2.length l1_2) (hc1_2 : l1_2.length ≤ c1_2) (h : rational_Sub.f k a0_0 l0_1 l0_2 a1_0 l1_1 l1_2 = some (r1, r2, r3)) :
 Calls Tryd.prog 28 #[.agg #[.bool a0_0, .slice A0_1 l0_1.length c0_1, .slice A0_2 l0_2.length c0_2], .agg #[.bool a1_0, .slice A1_1 l1_1.length c1_1, .slice A1_2 l1_2.length c1_2]] w fun e w' => ∃ v1_ v2_ : Value, e = .returned (.agg #[.bool r1, v1_, v2_]) ∧ Kd.R (Kd.int .u32) 37 w' w.heap.size (fun k_ => some k_ ≠ (v2_ : Value).ownBlock) v1_ r2 ∧ Kd.R (Kd.int .u32) 37 w' w.heap.size (fun k_ => some k_ ≠ (v1_ : Value).ownBlock) v2_ r3 ∧ Below w.heap.size w w' := by
 have hu25 := Tryd.underlying25
 have HR0_1 := zA hr0_1
 have HC0_1 := zA hc0_1
 clear hr0_1 hc0_1
 have HR0_2 := zA hr0_2
 have HC0_2 := zA hc0_2
 clear hr0_2 hc0_2
 have HR1_1 := zA hr1_1
 have HC1_1 := zA hc1_1
 clear hr1_1 hc1_1
 have HR1_2 := zA hr1_2
 have HC1_2 := zA hc1_2
 clear hr1_2 hc1_2
 have HB := zA (Below.refl w.heap.size w)
 have H : ((rational_Neg.f k a1_0 l1_1 l1_2).bind fun bt596 => ((rational_Add.f k a0_0 l0_1 l0_2 bt596.1 bt596.2.1 bt596.2.2).bind fun bt603 => (some (bt603.1, bt603.2.1, bt603.2.2)))) = some (r1, r2, r3) := h
 clear h
 obtain ⟨⟨t596, t597, t600⟩, A30, H⟩ := zi H
 replace H : ((rational_Add.f k a0_0 l0_1 l0_2 t596 t597 t600).bind fun bt603 => (some (bt603.1, bt603.2.1, bt603.2.2))) = some (r1, r2, r3) := H
 have A3 := zA A30
 clear A30
 obtain ⟨⟨t603, t604, t607⟩, A40, H⟩ := zi H
 replace H : (some (t603, t604, t607)) = some (r1, r2, r3) := H
 have A4 := zA A40
 clear A40
 simp only [Option.some.injEq, Prod.mk.injEq] at H
 obtain ⟨rfl, rfl, rfl⟩ := H
 go_enter Tryd.func28, Tryd.ntmps28
 try go_wp2_with (first | ((with_reducible refine gate_dst (N := 2) rfl ?_); refine box_event ?hg (N := 2) ?hd (cs := #[.bool a0_0, .slice A0_1 l0_1.length c0_1, .slice A0_2 l0_2.length c0_2]) (t := 25) ?hr ?_; (case hd => rfl); (case hg => rfl); (case hr => first | (go_simp; done) | (go_simp; rfl)); intro gb593 hg w5 hbox hb; have BK593 := zA (hbox); have GW593 := zA ((by rw [hg]; exact (below_size (zb HB rfl)) : w.heap.size ≤ gb593)); have GE593 := zA ((by rw [hg]; exact (below_size (zb HB rfl)) : w.heap.size ≤ gb593)); replace HB := zbb HB hb rfl; clear hb hbox hg) | ((with_reducible refine gate_dst (N := 3) rfl ?_); refine box_event ?hg (N := 3) ?hd (cs := #[.bool a1_0, .slice A1_1 l1_1.length c1_1, .slice A1_2 l1_2.length c1_2]) (t := 25) ?hr ?_; (case hd => rfl); (case hg => rfl); (case hr => first | (go_simp; done) | (go_simp; rfl)); intro gb594 hg w6 hbox hb; have BK594 := zA (hbox); have GW594 := zA ((by rw [hg]; exact (below_size (zb HB rfl)) : w.heap.size ≤ gb594)); have GE594 := zA ((by rw [hg]; exact (below_size (zb HB rfl)) : w.heap.size ≤ gb594)); replace HB := zbb HB hb rfl; have NB593_594 := zA ((by rw [hg]; exact Nat.ne_of_lt (blk_lt BK593.out) : gb593 ≠ gb594)); have NB594_593 := zA ((by rw [hg]; exact Nat.ne_of_gt (blk_lt BK593.out) : gb594 ≠ gb593)); replace BK593 := zkb BK593 hb; clear hb hbox hg) | ((with_reducible refine gate_dst (N := 4) rfl ?_); refine box_event ?hg (N := 4) ?hd (cs := #[.bool false, .slice none 0 0, .slice none 0 0]) (t := 25) ?hr ?_; (case hd => rfl); (case hg => rfl); (case hr => first | (go_simp; done) | (go_simp; rfl)); intro gb595 hg w7 hbox hb; have BK595 := zA (hbox); have GW595 := zA ((by rw [hg]; exact (below_size (zb HB rfl)) : w.heap.size ≤ gb595)); have GE595 := zA ((by rw [hg]; exact (below_size (zb HB rfl)) : w.heap.size ≤ gb595)); replace HB := zbb HB hb rfl; have NB593_595 := zA ((by rw [hg]; exact Nat.ne_of_lt (blk_lt BK593.out) : gb593 ≠ gb595)); have NB595_593 := zA ((by rw [hg]; exact Nat.ne_of_gt (blk_lt BK593.out) : gb595 ≠ gb593)); replace BK593 := zkb BK593 hb; have NB594_595 := zA ((by rw [hg]; exact Nat.ne_of_lt (blk_lt BK594.out) : gb594 ≠ gb595)); have NB595_594 := zA ((by rw [hg]; exact Nat.ne_of_gt (blk_lt BK594.out) : gb595 ≠ gb594)); replace BK594 := zkb BK594 hb; clear hb hbox hg))
 replace BK593 := zA (blk_drew BK593.out)
 replace BK594 := zA (blk_drew BK594.out)
 replace BK595 := zA (blk_drew BK595.out)
 replace HB := zA (below_drew1 HB.out)
 refine start_ (n := 5) (S := fun w' => w'.cell? ⟨gb593, 0, none⟩ = some (.bool a0_0) ∧ w'.cell? ⟨gb593, 1, none⟩ = some (.slice A0_1 l0_1.length c0_1) ∧ w'.cell? ⟨gb593, 2, none⟩ = some (.slice A0_2 l0_2.length c0_2) ∧ w'.cell? ⟨gb594, 0, none⟩ = some (.bool a1_0) ∧ w'.cell? ⟨gb594, 1, none⟩ = some (.slice A1_1 l1_1.length c1_1) ∧ w'.cell? ⟨gb594, 2, none⟩ = some (.slice A1_2 l1_2.length c1_2)) (ds := []) #[false, false, false, false, false] zk rfl rfl ⟨zc BK593 0 rfl, zc BK593 1 rfl, zc BK593 2 rfl, zc BK594 0 rfl, zc BK594 1 rfl, zc BK594 2 rfl⟩ (fun hHeld => ?_)
 generalize w7.drew = w8 at BK593 BK594 BK595 HB hHeld ⊢
 refine take_ (i := 0) (N := some 5) (v := ?_) (a' := ?_) #[true, false, false, false, false] rfl rfl zk (fun _ _ _ h => h) (Or.inl ⟨by rfl, ?_⟩) hHeld ?_ ?_
 rotate_left
 ·
  rintro w' ⟨s0, s1, s2, s3, s4, s5⟩
  go_simp
  with_reducible rfl
 rotate_left
 ·
  simp only [Act.put, List.setIfInBounds_toArray, List.set_cons_zero, List.set_cons_succ, i64_w, i32_w]
  rfl
 refine take_ (i := 1) (N := some 6) (v := ?_) (a' := ?_) #[true, true, false, false, false] rfl rfl zk (fun _ _ _ h => h) (Or.inl ⟨by rfl, ?_⟩) hHeld ?_ ?_
 rotate_left
 ·
  rintro w' ⟨s0, s1, s2, s3, s4, s5⟩
  go_simp
  with_reducible rfl
 rotate_left
 ·
  simp only [Act.put, List.setIfInBounds_toArray, List.set_cons_zero, List.set_cons_succ, i64_w, i32_w]
  rfl
 refine one_ (i := 2) (N := some 7) #[true, true, true, false, false] rfl rfl zk (by decide) (fun K hK => ?_)
 refine goes_ Tryd.func24 zk rfl #[.agg #[.bool a1_0, .slice A1_1 l1_1.length c1_1, .slice A1_2 l1_2.length c1_2]] (by rfl) rfl rfl zX ?_
 with_reducible refine (rational_Neg.calls k a1_0 _ _ l1_1 _ _ l1_2 t596 t597 t600 _ ?side1 ?side2 ?side3 ?side4 A3.out).mono ?_
 (case side1 => exact zC (Kd.C_below HR1_1.out HB.out))
 (case side2 => exact HC1_1.out)
 (case side3 => exact zC (Kd.C_below HR1_2.out HB.out))
 (case side4 => exact HC1_2.out)
 rintro e w9 ⟨v598, v601, rfl, ho0, ho1, hb⟩
 refine ⟨_, rfl, ?_⟩
 have HO599 := zA (Kd.R_lower ho0 (below_size (zb HB rfl)))
 have HO602 := zA (Kd.R_lower ho1 (below_size (zb HB rfl)))
 replace BK593 := zkb BK593 hb
 replace BK594 := zkb BK594 hb
 replace BK595 := zkb BK595 hb
 replace HB := zbb HB hb rfl
 obtain ⟨Ao10, co10, eo10⟩ := Kd.R_slice HO599.out
 (first | subst eo10 | (injection eo10 with f1_ f2_ f3_; have f4_ := f1_.symm; have f5_ := f3_.symm; clear f1_ f2_ f3_; subst f4_; subst f5_))
 obtain ⟨Ao11, co11, eo11⟩ := Kd.R_slice HO602.out
 (first | subst eo11 | (injection eo11 with f1_ f2_ f3_; have f4_ := f1_.symm; have f5_ := f3_.symm; clear f1_ f2_ f3_; subst f4_; subst f5_))
 refine hK.out _ _ ⟨zc BK593 0 rfl, zc BK593 1 rfl, zc BK593 2 rfl, zc BK594 0 rfl, zc BK594 1 rfl, zc BK594 2 rfl⟩ (fun hHeld => ?_)
 clear hK K
 refine norm_ (a' := ?_) ?_ ?_
 rotate_left
 ·
  show Act.put _ (some 7) _ = _
  simp only [Act.put, List.setIfInBounds_toArray, List.set_cons_zero, List.set_cons_succ, i64_w, i32_w]
  rfl
 refine one_ (i := 3) (N := some 8) #[true, true, true, true, false] rfl rfl zk (by decide) (fun K hK => ?_)
 refine goes_ Tryd.func23 zk rfl #[.agg #[.bool a0_0, .slice A0_1 l0_1.length c0_1, .slice A0_2 l0_2.length c0_2], .agg #[.bool t596, .slice Ao10 t597.length co10, .slice Ao11 t600.length co11]] (by rfl) rfl rfl zX ?_
 with_reducible refine (rational_Add.calls k a0_0 _ _ l0_1 _ _ l0_2 t596 _ _ t597 _ _ t600 t603 t604 t607 _ ?side1 ?side2 ?side3 ?side4 ?side5 ?side6 ?side7 ?side8 A4.out).mono ?_
 (case side1 => exact zC (Kd.C_below HR0_1.out HB.out))
 (case side2 => exact HC0_1.out)
 (case side3 => exact zC (Kd.C_below HR0_2.out HB.out))
 (case side4 => exact HC0_2.out)
 (case side5 => exact zC (Kd.R_reads' HO599.out).2.2)
 (case side6 => exact (Kd.R_reads' HO599.out).2.1)
 (case side7 => exact zC (Kd.R_reads' HO602.out).2.2)
 (case side8 => exact (Kd.R_reads' HO602.out).2.1)
 rintro e w12 ⟨v605, v608, rfl, ho0, ho1, hb⟩
 refine ⟨_, rfl, ?_⟩
 have HO606 := zA (Kd.R_lower (Kd.R_new' (Kd.R_new' ho0 (Kd.R_lt (zr HO599 rfl))) (Kd.R_lt (zr HO602 rfl))) (below_size (zb HB rfl)))
 have HO609 := zA (Kd.R_lower (Kd.R_new' (Kd.R_new' ho1 (Kd.R_lt (zr HO599 rfl))) (Kd.R_lt (zr HO602 rfl))) (below_size (zb HB rfl)))
 replace HO599 := zA (Kd.R_mono (Kd.R_told (Kd.R_told (Kd.R_old (zr HO599 rfl) hb) (Kd.R_base ho0)) (Kd.R_base ho1)) (fun _ h_ => h_.1))
 replace HO602 := zA (Kd.R_mono (Kd.R_told (Kd.R_told (Kd.R_old (zr HO602 rfl) hb) (Kd.R_base ho0)) (Kd.R_base ho1)) (fun _ h_ => h_.1))
 replace BK593 := zkb BK593 hb
 replace BK594 := zkb BK594 hb
 replace BK595 := zkb BK595 hb
 replace HB := zbb HB hb rfl
 obtain ⟨Ao14, co14, eo14⟩ := Kd.R_slice HO606.out
 (first | subst eo14 | (injection eo14 with f1_ f2_ f3_; have f4_ := f1_.symm; have f5_ := f3_.symm; clear f1_ f2_ f3_; subst f4_; subst f5_))
 obtain ⟨Ao16, co16, eo16⟩ := Kd.R_slice HO609.out
 (first | subst eo16 | (injection eo16 with f1_ f2_ f3_; have f4_ := f1_.symm; have f5_ := f3_.symm; clear f1_ f2_ f3_; subst f4_; subst f5_))
 refine hK.out _ _ ⟨zc BK593 0 rfl, zc BK593 1 rfl, zc BK593 2 rfl, zc BK594 0 rfl, zc BK594 1 rfl, zc BK594 2 rfl⟩ (fun hHeld => ?_)
 clear hK K
 refine norm_ (a' := ?_) ?_ ?_
 rotate_left
 ·
  show Act.put _ (some 8) _ = _
  simp only [Act.put, List.setIfInBounds_toArray, List.set_cons_zero, List.set_cons_succ, i64_w, i32_w]
  rfl
 refine one_ (i := 4) (N := none) #[true, true, true, true, true] rfl rfl zk (by decide) (fun K hK => ?_)
 have hs13 : w12.cell? ⟨gb595, 0, none⟩ = some (.bool false) := zc BK595 0 rfl
 have hfs13 := zF BK595 0
 have hns13_0 := NB593_595.out
 have hns13_1 := NB594_595.out
 have hms13_0 := NB595_593.out
 have hms13_1 := NB595_594.out
 have hs15 : w12.cell? ⟨gb595, 1, none⟩ = some (.slice none 0 0) := zc BK595 1 rfl
 have hfs15 := zF BK595 1
 have hns15_0 := NB593_595.out
 have hns15_1 := NB594_595.out
 have hms15_0 := NB595_593.out
 have hms15_1 := NB595_594.out
 have hs17 : w12.cell? ⟨gb595, 2, none⟩ = some (.slice none 0 0) := zc BK595 2 rfl
 have hfs17 := zF BK595 2
 have hns17_0 := NB593_595.out
 have hns17_1 := NB594_595.out
 have hms17_0 := NB595_593.out
 have hms17_1 := NB595_594.out
 refine skip_ (w1 := ?_) (by rfl) rfl ?_ ?_
 rotate_left
 ·
  go_simp
  rfl
 refine hK.out _ _ ⟨((cell_far (p := ⟨gb595, _, none⟩) NB593_595.out _).trans (((cell_far (p := ⟨gb595, _, none⟩) NB593_595.out _).trans (((cell_far (p := ⟨gb595, _, none⟩) NB593_595.out _).trans (hHeld.1)))))), ((cell_far (p := ⟨gb595, _, none⟩) NB593_595.out _).trans (((cell_far (p := ⟨gb595, _, none⟩) NB593_595.out _).trans (((cell_far (p := ⟨gb595, _, none⟩) NB593_595.out _).trans (hHeld.2.1)))))), ((cell_far (p := ⟨gb595, _, none⟩) NB593_595.out _).trans (((cell_far (p := ⟨gb595, _, none⟩) NB593_595.out _).trans (((cell_far (p := ⟨gb595, _, none⟩) NB593_595.out _).trans (hHeld.2.2.1)))))), ((cell_far (p := ⟨gb595, _, none⟩) NB594_595.out _).trans (((cell_far (p := ⟨gb595, _, none⟩) NB594_595.out _).trans (((cell_far (p := ⟨gb595, _, none⟩) NB594_595.out _).trans (hHeld.2.2.2.1)))))), ((cell_far (p := ⟨gb595, _, none⟩) NB594_595.out _).trans (((cell_far (p := ⟨gb595, _, none⟩) NB594_595.out _).trans (((cell_far (p := ⟨gb595, _, none⟩) NB594_595.out _).trans (hHeld.2.2.2.2.1)))))), ((cell_far (p := ⟨gb595, _, none⟩) NB594_595.out _).trans (((cell_far (p := ⟨gb595, _, none⟩) NB594_595.out _).trans (((cell_far (p := ⟨gb595, _, none⟩) NB594_595.out _).trans (hHeld.2.2.2.2.2))))))⟩ (fun hHeld => ?_)
 clear hK K
 refine done_ zk ?_
 try go_wp2
 refine bodyPost_ret (results_cell_row rfl _ _ gb595 25 #[.bool t603, .slice Ao14 t604.length co14, .slice Ao16 t607.length co16] (0, 0) _ rfl (by (with_reducible repeat (first | refine blk_drewN ?_ _ | refine blk_drew ?_ | refine blk_alloc ?_ _)); refine blk_put (cs := #[.bool t603, .slice Ao14 t604.length co14, .slice none 0 0]) ?_ 2 _ rfl; (with_reducible repeat (first | refine blk_drewN ?_ _ | refine blk_drew ?_ | refine blk_alloc ?_ _)); refine blk_put (cs := #[.bool t603, .slice none 0 0, .slice none 0 0]) ?_ 1 _ rfl; (with_reducible repeat (first | refine blk_drewN ?_ _ | refine blk_drew ?_ | refine blk_alloc ?_ _)); refine blk_put (cs := #[.bool false, .slice none 0 0, .slice none 0 0]) ?_ 0 _ rfl; (with_reducible repeat (first | refine blk_drewN ?_ _ | refine blk_drew ?_ | refine blk_alloc ?_ _)); exact BK595.out) Tryd.underlying25 rfl zk) rfl ?_
 exact ⟨_, _, zE, zRM (Kd.R_far (p := ⟨gb595, 2, none⟩) (Kd.R_far (p := ⟨gb595, 1, none⟩) (Kd.R_far (p := ⟨gb595, 0, none⟩) (Kd.R_types HO606.out BK595.out (by decide)) (fun _ hk => hk.2) (.bool t603)) (fun _ hk => hk.2) (.slice Ao14 t604.length co14)) (fun _ hk => hk.2) (.slice Ao16 t607.length co16)) (fun _ hk => hk.1.1.1), zRM (Kd.R_far (p := ⟨gb595, 2, none⟩) (Kd.R_far (p := ⟨gb595, 1, none⟩) (Kd.R_far (p := ⟨gb595, 0, none⟩) (Kd.R_types HO609.out BK595.out (by decide)) (fun _ hk => hk.2) (.bool t603)) (fun _ hk => hk.2) (.slice Ao14 t604.length co14)) (fun _ hk => hk.2) (.slice Ao16 t607.length co16)) (fun _ hk => hk.1.1.1), by repeat (first | (with_reducible first | exact HB.out | apply below_alloc | apply pw_below_drewN | apply below_drew1 | refine below_set ?_ GE593.out | refine below_set ?_ GE594.out | refine below_set ?_ GE595.out) | exact HB.out)⟩

def rational_Mul.f (k : Nat) (a0_0 : Bool) (l0_1 : List Int) (l0_2 : List Int) (a1_0 : Bool) (l1_1 : List Int) (l1_2 : List Int) : Option (Bool × List Int × List Int) := (rational_parts.f k a0_0 l0_1 l0_2).bind fun bt613 => ((rational_parts.f k a1_0 l1_1 l1_2).bind fun bt620 => ((bignat_Mul.f k bt613.2.1 bt620.2.1).bind fun t627 => ((bignat_Mul.f k bt613.2.2 bt620.2.2).bind fun t630 => ((rational_reduce.f k (bt613.1 != bt620.1) t627 t630).bind fun bt633 => (some (bt633.1, bt633.2.1, bt633.2.2))))))
set_option maxHeartbeats 8000000 in
set_option maxRecDepth 100000 in
theorem rational_Mul.calls (k : Nat) (a0_0 : Bool) (A0_1 : Option Addr) (c0_1 : Nat) (l0_1 : List Int) (A0_2 : Option Addr) (c0_2 : Nat) (l0_2 : List Int) (a1_0 : Bool) (A1_1 : Option Addr) (c1_1 : Nat) (l1_1 : List Int) (A1_2 : Option Addr) (c1_2 : Nat) (l1_2 : List Int) (r1 : Bool) (r2 : List Int) (r3 : List Int) (w : World) (hr0_1 : Kd.C (Kd.int .u32) w A0_1 l0_1.length l0_1) (hc0_1 : l0_1.length ≤ c0_1) (hr0_2 : Kd.C (Kd.int .u32) w A0_2 l0_2.length l0_2) (hc0_2 : l0_2.length ≤ c0_2) (hr1_1 : Kd.C (Kd.int .u32) w A1_1 l1_1.length l1_1) (hc1_1 : l1_1.length ≤ c1_1) (hr1_2 : Kd.C (Kd.int .u32) w A1_2 l1_2.length l1_2) (hc1_2 : l1_2.length ≤ c1_2) (h : rational_Mul.f k a0_0 l0_1 l0_2 a1_0 l1_1 l1_2 = some (r1, r2, r3)) :
 Calls Tryd.prog 29 #[.agg #[.bool a0_0, .slice A0_1 l0_1.length c0_1, .slice A0_2 l0_2.length c0_2], .agg #[.bool a1_0, .slice A1_1 l1_1.length c1_1, .slice A1_2 l1_2.length c1_2]] w fun e w' => ∃ v1_ v2_ : Value, e = .returned (.agg #[.bool r1, v1_, v2_]) ∧ Kd.R (Kd.int .u32) 37 w' w.heap.size (fun k_ => some k_ ≠ (v2_ : Value).ownBlock) v1_ r2 ∧ Kd.R (Kd.int .u32) 37 w' w.heap.size (fun k_ => some k_ ≠ (v1_ : Value).ownBlock) v2_ r3 ∧ Below w.heap.size w w' := by
 have hu25 := Tryd.underlying25
 have HR0_1 := zA hr0_1
 have HC0_1 := zA hc0_1
 clear hr0_1 hc0_1
 have HR0_2 := zA hr0_2
 have HC0_2 := zA hc0_2
 clear hr0_2 hc0_2
 have HR1_1 := zA hr1_1
 have HC1_1 := zA hc1_1
 clear hr1_1 hc1_1
 have HR1_2 := zA hr1_2
 have HC1_2 := zA hc1_2
 clear hr1_2 hc1_2
 have HB := zA (Below.refl w.heap.size w)
 have H : ((rational_parts.f k a0_0 l0_1 l0_2).bind fun bt613 => ((rational_parts.f k a1_0 l1_1 l1_2).bind fun bt620 => ((bignat_Mul.f k bt613.2.1 bt620.2.1).bind fun t627 => ((bignat_Mul.f k bt613.2.2 bt620.2.2).bind fun t630 => ((rational_reduce.f k (bt613.1 != bt620.1) t627 t630).bind fun bt633 => (some (bt633.1, bt633.2.1, bt633.2.2))))))) = some (r1, r2, r3) := h
 clear h
 obtain ⟨⟨t613, t614, t617⟩, A30, H⟩ := zi H
 replace H : ((rational_parts.f k a1_0 l1_1 l1_2).bind fun bt620 => ((bignat_Mul.f k t614 bt620.2.1).bind fun t627 => ((bignat_Mul.f k t617 bt620.2.2).bind fun t630 => ((rational_reduce.f k (t613 != bt620.1) t627 t630).bind fun bt633 => (some (bt633.1, bt633.2.1, bt633.2.2)))))) = some (r1, r2, r3) := H
 have A3 := zA A30
 clear A30
 obtain ⟨⟨t620, t621, t624⟩, A40, H⟩ := zi H
 replace H : ((bignat_Mul.f k t614 t621).bind fun t627 => ((bignat_Mul.f k t617 t624).bind fun t630 => ((rational_reduce.f k (t613 != t620) t627 t630).bind fun bt633 => (some (bt633.1, bt633.2.1, bt633.2.2))))) = some (r1, r2, r3) := H
 have A4 := zA A40
 clear A40
 obtain ⟨t627, A50, H⟩ := zi H
 replace H : ((bignat_Mul.f k t617 t624).bind fun t630 => ((rational_reduce.f k (t613 != t620) t627 t630).bind fun bt633 => (some (bt633.1, bt633.2.1, bt633.2.2)))) = some (r1, r2, r3) := H
 have A5 := zA A50
 clear A50
 obtain ⟨t630, A60, H⟩ := zi H
 replace H : ((rational_reduce.f k (t613 != t620) t627 t630).bind fun bt633 => (some (bt633.1, bt633.2.1, bt633.2.2))) = some (r1, r2, r3) := H
 have A6 := zA A60
 clear A60
 obtain ⟨⟨t633, t634, t637⟩, A70, H⟩ := zi H
 replace H : (some (t633, t634, t637)) = some (r1, r2, r3) := H
 have A7 := zA A70
 clear A70
 simp only [Option.some.injEq, Prod.mk.injEq] at H
 obtain ⟨rfl, rfl, rfl⟩ := H
 go_enter Tryd.func29, Tryd.ntmps29
 go_wp2_with (first | ((with_reducible refine gate_dst (N := 2) rfl ?_); refine box_event ?hg (N := 2) ?hd (cs := #[.bool a0_0, .slice A0_1 l0_1.length c0_1, .slice A0_2 l0_2.length c0_2]) (t := 25) ?hr ?_; (case hd => rfl); (case hg => rfl); (case hr => first | (go_simp; done) | (go_simp; rfl)); intro gb610 hg w8 hbox hb; have BK610 := zA (hbox); have GW610 := zA ((by rw [hg]; exact (below_size zH) : w.heap.size ≤ gb610)); have GE610 := zA ((by rw [hg]; exact (below_size zH) : w.heap.size ≤ gb610)); replace HB := zA (below_step zH hb); clear hb hbox hg) | ((with_reducible refine gate_dst (N := 3) rfl ?_); refine box_event ?hg (N := 3) ?hd (cs := #[.bool a1_0, .slice A1_1 l1_1.length c1_1, .slice A1_2 l1_2.length c1_2]) (t := 25) ?hr ?_; (case hd => rfl); (case hg => rfl); (case hr => first | (go_simp; done) | (go_simp; rfl)); intro gb611 hg w9 hbox hb; have BK611 := zA (hbox); have GW611 := zA ((by rw [hg]; exact (below_size (zG1 GE610.out)) : w.heap.size ≤ gb611)); have GE611 := zA ((by rw [hg]; exact (below_size (zG1 GE610.out)) : w.heap.size ≤ gb611)); replace HB := zA (below_step (zG1 GE610.out) hb); have NB610_611 := zA ((by rw [hg]; exact Nat.ne_of_lt (blk_lt (zB BK610.out)) : gb610 ≠ gb611)); have NB611_610 := zA ((by rw [hg]; exact Nat.ne_of_gt (blk_lt (zB BK610.out)) : gb611 ≠ gb610)); replace BK610 := zA (blk_below (zB BK610.out) hb); clear hb hbox hg) | ((with_reducible refine gate_dst (N := 4) rfl ?_); refine box_event ?hg (N := 4) ?hd (cs := #[.bool false, .slice none 0 0, .slice none 0 0]) (t := 25) ?hr ?_; (case hd => rfl); (case hg => rfl); (case hr => first | (go_simp; done) | (go_simp; rfl)); intro gb612 hg w10 hbox hb; have BK612 := zA (hbox); have GW612 := zA ((by rw [hg]; exact (below_size (zG2 GE610.out GE611.out)) : w.heap.size ≤ gb612)); have GE612 := zA ((by rw [hg]; exact (below_size (zG2 GE610.out GE611.out)) : w.heap.size ≤ gb612)); replace HB := zA (below_step (zG2 GE610.out GE611.out) hb); have NB610_612 := zA ((by rw [hg]; exact Nat.ne_of_lt (blk_lt (zB BK610.out)) : gb610 ≠ gb612)); have NB612_610 := zA ((by rw [hg]; exact Nat.ne_of_gt (blk_lt (zB BK610.out)) : gb612 ≠ gb610)); replace BK610 := zA (blk_below (zB BK610.out) hb); have NB611_612 := zA ((by rw [hg]; exact Nat.ne_of_lt (blk_lt (zB BK611.out)) : gb611 ≠ gb612)); have NB612_611 := zA ((by rw [hg]; exact Nat.ne_of_gt (blk_lt (zB BK611.out)) : gb612 ≠ gb611)); replace BK611 := zA (blk_below (zB BK611.out) hb); clear hb hbox hg; have hnb11 := NB610_611.out; have hnc11 := NB611_610.out; have hnb12 := NB610_612.out; have hnc12 := NB612_610.out; have hcz13_0 := zc BK610 0 (v := .bool a0_0) rfl; have hcz13_1 := zc BK610 1 (v := .slice A0_1 l0_1.length c0_1) rfl; have hcz13_2 := zc BK610 2 (v := .slice A0_2 l0_2.length c0_2) rfl; have hfz13_0 := zF BK610 0; have hfz13_1 := zF BK610 1; have hfz13_2 := zF BK610 2) | ((with_reducible refine gate_callee (f := 66) rfl ?_); refine goesL_ (some 13) rfl rfl Tryd.func66 zk rfl #[.agg #[.bool a0_0, .slice A0_1 l0_1.length c0_1, .slice A0_2 l0_2.length c0_2]] rfl (by (try simp only [List.map_toArray, List.map_cons, List.map_nil]); first | done | rfl | (simp only [List.length_drop, List.length_take]; rfl) | (go_simp; done) | (go_simp; rfl) | (go_simp; (try simp only [IntKind.wrap_u8, IntKind.wrap_u32, IntKind.wrap_u64]); omega)) ?_; (with_reducible refine (rational_parts.calls k a0_0 (fun k_ => k_ < w.heap.size) _ _ l0_1 (fun k_ => k_ < w.heap.size) _ _ l0_2 t613 t614 t617 _ ?side1 ?side2 A3.out).mono ?_); (case side1 => exact Kd.V_mk HC0_1.out (Kd.F_below (Kd.C_F (Kd.heap_int .u32) HR0_1.out) (by repeat (first | (with_reducible first | exact HB.out | apply below_alloc | apply pw_below_drewN | apply below_drew1 | refine below_set ?_ GE610.out | refine below_set ?_ GE611.out | refine below_set ?_ GE612.out) | exact HB.out)))); (case side2 => exact Kd.V_mk HC0_2.out (Kd.F_below (Kd.C_F (Kd.heap_int .u32) HR0_2.out) (by repeat (first | (with_reducible first | exact HB.out | apply below_alloc | apply pw_below_drewN | apply below_drew1 | refine below_set ?_ GE610.out | refine below_set ?_ GE611.out | refine below_set ?_ GE612.out) | exact HB.out)))); rintro e w14 ⟨v615, v618, rfl, ho0, ho1, hb⟩; refine ⟨_, rfl, ?_⟩; have HO616 := zA (Kd.V_lower (Kd.V_mono (ok' := fun k_ => k_ ≠ gb610 ∧ k_ ≠ gb611 ∧ k_ ≠ gb612) ho0 (fun k_ hk_ => ⟨Or.elim hk_ (fun hs_ => Or.elim hs_ (fun hs_ => fun e_ => Nat.not_le.2 hs_ (by rw [e_]; exact GW610.out)) (fun hs_ => fun e_ => Nat.not_le.2 hs_ (by rw [e_]; exact GW610.out))) (fun hn_ => (Kd.freshB (zB BK610.out) k_ hn_)), Or.elim hk_ (fun hs_ => Or.elim hs_ (fun hs_ => fun e_ => Nat.not_le.2 hs_ (by rw [e_]; exact GW611.out)) (fun hs_ => fun e_ => Nat.not_le.2 hs_ (by rw [e_]; exact GW611.out))) (fun hn_ => (Kd.freshB (zB BK611.out) k_ hn_)), Or.elim hk_ (fun hs_ => Or.elim hs_ (fun hs_ => fun e_ => Nat.not_le.2 hs_ (by rw [e_]; exact GW612.out)) (fun hs_ => fun e_ => Nat.not_le.2 hs_ (by rw [e_]; exact GW612.out))) (fun hn_ => (Kd.freshB (zB BK612.out) k_ hn_))⟩)) (below_size (by repeat (first | (with_reducible first | exact HB.out | apply below_alloc | apply pw_below_drewN | apply below_drew1 | refine below_set ?_ GE610.out | refine below_set ?_ GE611.out | refine below_set ?_ GE612.out) | exact HB.out)))); have HO619 := zA (Kd.V_lower (Kd.V_mono (ok' := fun k_ => k_ ≠ gb610 ∧ k_ ≠ gb611 ∧ k_ ≠ gb612) ho1 (fun k_ hk_ => ⟨Or.elim hk_ (fun hs_ => Or.elim hs_ (fun hs_ => fun e_ => Nat.not_le.2 hs_ (by rw [e_]; exact GW610.out)) (fun hs_ => fun e_ => Nat.not_le.2 hs_ (by rw [e_]; exact GW610.out))) (fun hn_ => (Kd.freshB (zB BK610.out) k_ hn_)), Or.elim hk_ (fun hs_ => Or.elim hs_ (fun hs_ => fun e_ => Nat.not_le.2 hs_ (by rw [e_]; exact GW611.out)) (fun hs_ => fun e_ => Nat.not_le.2 hs_ (by rw [e_]; exact GW611.out))) (fun hn_ => (Kd.freshB (zB BK611.out) k_ hn_)), Or.elim hk_ (fun hs_ => Or.elim hs_ (fun hs_ => fun e_ => Nat.not_le.2 hs_ (by rw [e_]; exact GW612.out)) (fun hs_ => fun e_ => Nat.not_le.2 hs_ (by rw [e_]; exact GW612.out))) (fun hn_ => (Kd.freshB (zB BK612.out) k_ hn_))⟩)) (below_size (by repeat (first | (with_reducible first | exact HB.out | apply below_alloc | apply pw_below_drewN | apply below_drew1 | refine below_set ?_ GE610.out | refine below_set ?_ GE611.out | refine below_set ?_ GE612.out) | exact HB.out)))); replace BK610 := zA (blk_below (zB BK610.out) hb); replace BK611 := zA (blk_below (zB BK611.out) hb); replace BK612 := zA (blk_below (zB BK612.out) hb); replace HB := zA (below_step (by repeat (first | (with_reducible first | exact HB.out | apply below_alloc | apply pw_below_drewN | apply below_drew1 | refine below_set ?_ GE610.out | refine below_set ?_ GE611.out | refine below_set ?_ GE612.out) | exact HB.out)) hb); (try clear hb); (try clear hb2); (try clear hk); (try clear hi); (try clear ho0); (try clear ho1); have hnb15 := NB611_612.out; have hnc15 := NB612_611.out; have hcz16_0 := zc BK611 0 (v := .bool a1_0) rfl; have hcz16_1 := zc BK611 1 (v := .slice A1_1 l1_1.length c1_1) rfl; have hcz16_2 := zc BK611 2 (v := .slice A1_2 l1_2.length c1_2) rfl; have hfz16_0 := zF BK611 0; have hfz16_1 := zF BK611 1; have hfz16_2 := zF BK611 2) | ((with_reducible refine gate_callee (f := 66) rfl ?_); refine goesL_ (some 19) rfl rfl Tryd.func66 zk rfl #[.agg #[.bool a1_0, .slice A1_1 l1_1.length c1_1, .slice A1_2 l1_2.length c1_2]] rfl (by (try simp only [List.map_toArray, List.map_cons, List.map_nil]); first | done | rfl | (simp only [List.length_drop, List.length_take]; rfl) | (go_simp; done) | (go_simp; rfl) | (go_simp; (try simp only [IntKind.wrap_u8, IntKind.wrap_u32, IntKind.wrap_u64]); omega)) ?_; (with_reducible refine (rational_parts.calls k a1_0 (fun k_ => k_ < w.heap.size) _ _ l1_1 (fun k_ => k_ < w.heap.size) _ _ l1_2 t620 t621 t624 _ ?side1 ?side2 A4.out).mono ?_); (case side1 => exact Kd.V_mk HC1_1.out (Kd.F_below (Kd.C_F (Kd.heap_int .u32) HR1_1.out) (by repeat (first | (with_reducible first | exact HB.out | apply below_alloc | apply pw_below_drewN | apply below_drew1 | refine below_set ?_ GE610.out | refine below_set ?_ GE611.out | refine below_set ?_ GE612.out) | exact HB.out)))); (case side2 => exact Kd.V_mk HC1_2.out (Kd.F_below (Kd.C_F (Kd.heap_int .u32) HR1_2.out) (by repeat (first | (with_reducible first | exact HB.out | apply below_alloc | apply pw_below_drewN | apply below_drew1 | refine below_set ?_ GE610.out | refine below_set ?_ GE611.out | refine below_set ?_ GE612.out) | exact HB.out)))); rintro e w17 ⟨v622, v625, rfl, ho0, ho1, hb⟩; refine ⟨_, rfl, ?_⟩; replace HO616 := zA (Kd.V_below (zV HO616.out) hb); replace HO619 := zA (Kd.V_below (zV HO619.out) hb); have HO623 := zA (Kd.V_lower (Kd.V_mono (ok' := fun k_ => k_ ≠ gb610 ∧ k_ ≠ gb611 ∧ k_ ≠ gb612) ho0 (fun k_ hk_ => ⟨Or.elim hk_ (fun hs_ => Or.elim hs_ (fun hs_ => fun e_ => Nat.not_le.2 hs_ (by rw [e_]; exact GW610.out)) (fun hs_ => fun e_ => Nat.not_le.2 hs_ (by rw [e_]; exact GW610.out))) (fun hn_ => (Kd.freshB (zB BK610.out) k_ hn_)), Or.elim hk_ (fun hs_ => Or.elim hs_ (fun hs_ => fun e_ => Nat.not_le.2 hs_ (by rw [e_]; exact GW611.out)) (fun hs_ => fun e_ => Nat.not_le.2 hs_ (by rw [e_]; exact GW611.out))) (fun hn_ => (Kd.freshB (zB BK611.out) k_ hn_)), Or.elim hk_ (fun hs_ => Or.elim hs_ (fun hs_ => fun e_ => Nat.not_le.2 hs_ (by rw [e_]; exact GW612.out)) (fun hs_ => fun e_ => Nat.not_le.2 hs_ (by rw [e_]; exact GW612.out))) (fun hn_ => (Kd.freshB (zB BK612.out) k_ hn_))⟩)) (below_size (by repeat (first | (with_reducible first | exact HB.out | apply below_alloc | apply pw_below_drewN | apply below_drew1 | refine below_set ?_ GE610.out | refine below_set ?_ GE611.out | refine below_set ?_ GE612.out) | exact HB.out)))); have HO626 := zA (Kd.V_lower (Kd.V_mono (ok' := fun k_ => k_ ≠ gb610 ∧ k_ ≠ gb611 ∧ k_ ≠ gb612) ho1 (fun k_ hk_ => ⟨Or.elim hk_ (fun hs_ => Or.elim hs_ (fun hs_ => fun e_ => Nat.not_le.2 hs_ (by rw [e_]; exact GW610.out)) (fun hs_ => fun e_ => Nat.not_le.2 hs_ (by rw [e_]; exact GW610.out))) (fun hn_ => (Kd.freshB (zB BK610.out) k_ hn_)), Or.elim hk_ (fun hs_ => Or.elim hs_ (fun hs_ => fun e_ => Nat.not_le.2 hs_ (by rw [e_]; exact GW611.out)) (fun hs_ => fun e_ => Nat.not_le.2 hs_ (by rw [e_]; exact GW611.out))) (fun hn_ => (Kd.freshB (zB BK611.out) k_ hn_)), Or.elim hk_ (fun hs_ => Or.elim hs_ (fun hs_ => fun e_ => Nat.not_le.2 hs_ (by rw [e_]; exact GW612.out)) (fun hs_ => fun e_ => Nat.not_le.2 hs_ (by rw [e_]; exact GW612.out))) (fun hn_ => (Kd.freshB (zB BK612.out) k_ hn_))⟩)) (below_size (by repeat (first | (with_reducible first | exact HB.out | apply below_alloc | apply pw_below_drewN | apply below_drew1 | refine below_set ?_ GE610.out | refine below_set ?_ GE611.out | refine below_set ?_ GE612.out) | exact HB.out)))); replace BK610 := zA (blk_below (zB BK610.out) hb); replace BK611 := zA (blk_below (zB BK611.out) hb); replace BK612 := zA (blk_below (zB BK612.out) hb); replace HB := zA (below_step (by repeat (first | (with_reducible first | exact HB.out | apply below_alloc | apply pw_below_drewN | apply below_drew1 | refine below_set ?_ GE610.out | refine below_set ?_ GE611.out | refine below_set ?_ GE612.out) | exact HB.out)) hb); (try clear hb); (try clear hb2); (try clear hk); (try clear hi); (try clear ho0); (try clear ho1); obtain ⟨Ao18, co18, eo18⟩ := Kd.V_slice HO616.out; subst eo18; obtain ⟨Ao19, co19, eo19⟩ := Kd.V_slice HO623.out; subst eo19) | ((with_reducible refine gate_callee (f := 33) rfl ?_); refine goesL_ (some 28) rfl rfl Tryd.func33 zk rfl #[.slice Ao18 t614.length co18, .slice Ao19 t621.length co19] rfl (by (try simp only [List.map_toArray, List.map_cons, List.map_nil]); first | done | rfl | (simp only [List.length_drop, List.length_take]; rfl) | (go_simp; done) | (go_simp; rfl) | (go_simp; (try simp only [IntKind.wrap_u8, IntKind.wrap_u32, IntKind.wrap_u64]); omega)) ?_; (with_reducible refine (bignat_Mul.calls k _ _ t614 _ _ t621 t627 _ ?side1 ?side2 ?side3 ?side4 A5.out).mono ?_); (case side1 => repeat (first | exact (Kd.V_reads' HO616.out).2.2 | (with_reducible refine Kd.C_alloc ?_ _) | (with_reducible refine Kd.C_drewN ?_ _) | (with_reducible refine Kd.C_drew ?_))); (case side2 => exact (Kd.V_reads' HO616.out).2.1); (case side3 => repeat (first | exact (Kd.V_reads' HO623.out).2.2 | (with_reducible refine Kd.C_alloc ?_ _) | (with_reducible refine Kd.C_drewN ?_ _) | (with_reducible refine Kd.C_drew ?_))); (case side4 => exact (Kd.V_reads' HO623.out).2.1); rintro e w20 ⟨v628, rfl, ho0, hb⟩; refine ⟨_, rfl, ?_⟩; replace HO616 := zA (Kd.V_elder' (zV HO616.out) (Kd.R_base ho0) hb); replace HO619 := zA (Kd.V_elder' (zV HO619.out) (Kd.R_base ho0) hb); replace HO623 := zA (Kd.V_elder' (zV HO623.out) (Kd.R_base ho0) hb); replace HO626 := zA (Kd.V_elder' (zV HO626.out) (Kd.R_base ho0) hb); have HO629 := zA (Kd.R_lower ho0 (below_size (by repeat (first | (with_reducible first | exact HB.out | apply below_alloc | apply pw_below_drewN | apply below_drew1 | refine below_set ?_ GE610.out | refine below_set ?_ GE611.out | refine below_set ?_ GE612.out) | exact HB.out)))); replace BK610 := zA (blk_below (zB BK610.out) hb); replace BK611 := zA (blk_below (zB BK611.out) hb); replace BK612 := zA (blk_below (zB BK612.out) hb); replace HB := zA (below_step (by repeat (first | (with_reducible first | exact HB.out | apply below_alloc | apply pw_below_drewN | apply below_drew1 | refine below_set ?_ GE610.out | refine below_set ?_ GE611.out | refine below_set ?_ GE612.out) | exact HB.out)) hb); (try clear hb); (try clear hb2); (try clear hk); (try clear hi); (try clear ho0); obtain ⟨Ao21, co21, eo21⟩ := Kd.V_slice HO619.out; subst eo21; obtain ⟨Ao22, co22, eo22⟩ := Kd.V_slice HO626.out; subst eo22) | ((with_reducible refine gate_callee (f := 33) rfl ?_); refine goesL_ (some 31) rfl rfl Tryd.func33 zk rfl #[.slice Ao21 t617.length co21, .slice Ao22 t624.length co22] rfl (by (try simp only [List.map_toArray, List.map_cons, List.map_nil]); first | done | rfl | (simp only [List.length_drop, List.length_take]; rfl) | (go_simp; done) | (go_simp; rfl) | (go_simp; (try simp only [IntKind.wrap_u8, IntKind.wrap_u32, IntKind.wrap_u64]); omega)) ?_; (with_reducible refine (bignat_Mul.calls k _ _ t617 _ _ t624 t630 _ ?side1 ?side2 ?side3 ?side4 A6.out).mono ?_); (case side1 => repeat (first | exact (Kd.V_reads' HO619.out).2.2 | (with_reducible refine Kd.C_alloc ?_ _) | (with_reducible refine Kd.C_drewN ?_ _) | (with_reducible refine Kd.C_drew ?_))); (case side2 => exact (Kd.V_reads' HO619.out).2.1); (case side3 => repeat (first | exact (Kd.V_reads' HO626.out).2.2 | (with_reducible refine Kd.C_alloc ?_ _) | (with_reducible refine Kd.C_drewN ?_ _) | (with_reducible refine Kd.C_drew ?_))); (case side4 => exact (Kd.V_reads' HO626.out).2.1); rintro e w23 ⟨v631, rfl, ho0, hb⟩; refine ⟨_, rfl, ?_⟩; replace HO616 := zA (Kd.V_elder' (zV HO616.out) (Kd.R_base ho0) hb); replace HO619 := zA (Kd.V_elder' (zV HO619.out) (Kd.R_base ho0) hb); replace HO623 := zA (Kd.V_elder' (zV HO623.out) (Kd.R_base ho0) hb); replace HO626 := zA (Kd.V_elder' (zV HO626.out) (Kd.R_base ho0) hb); have HO632 := zA (Kd.R_lower (Kd.R_new' ho0 (Kd.R_lt (zR HO629.out))) (below_size (by repeat (first | (with_reducible first | exact HB.out | apply below_alloc | apply pw_below_drewN | apply below_drew1 | refine below_set ?_ GE610.out | refine below_set ?_ GE611.out | refine below_set ?_ GE612.out) | exact HB.out)))); replace HO629 := zA (Kd.R_elder' (zR HO629.out) (Kd.R_base ho0) hb); replace BK610 := zA (blk_below (zB BK610.out) hb); replace BK611 := zA (blk_below (zB BK611.out) hb); replace BK612 := zA (blk_below (zB BK612.out) hb); replace HB := zA (below_step (by repeat (first | (with_reducible first | exact HB.out | apply below_alloc | apply pw_below_drewN | apply below_drew1 | refine below_set ?_ GE610.out | refine below_set ?_ GE611.out | refine below_set ?_ GE612.out) | exact HB.out)) hb); (try clear hb); (try clear hb2); (try clear hk); (try clear hi); (try clear ho0); obtain ⟨Ao24, co24, eo24⟩ := Kd.R_slice HO629.out; subst eo24; obtain ⟨Ao25, co25, eo25⟩ := Kd.R_slice HO632.out; subst eo25) | ((with_reducible refine gate_callee (f := 46) rfl ?_); refine goesL_ (some 32) rfl rfl Tryd.func46 zk rfl #[.bool (t613 != t620), .slice Ao24 t627.length co24, .slice Ao25 t630.length co25] rfl (by (try simp only [List.map_toArray, List.map_cons, List.map_nil]); first | done | rfl | (simp only [List.length_drop, List.length_take]; rfl) | (go_simp; done) | (go_simp; rfl) | (go_simp; (try simp only [IntKind.wrap_u8, IntKind.wrap_u32, IntKind.wrap_u64]); omega)) ?_; (with_reducible refine (rational_reduce.calls k (t613 != t620) _ _ t627 _ _ t630 t633 t634 t637 _ ?side1 ?side2 ?side3 ?side4 A7.out).mono ?_); (case side1 => repeat (first | exact (Kd.R_reads' HO629.out).2.2 | (with_reducible refine Kd.C_alloc ?_ _) | (with_reducible refine Kd.C_drewN ?_ _) | (with_reducible refine Kd.C_drew ?_))); (case side2 => exact (Kd.R_reads' HO629.out).2.1); (case side3 => repeat (first | exact (Kd.R_reads' HO632.out).2.2 | (with_reducible refine Kd.C_alloc ?_ _) | (with_reducible refine Kd.C_drewN ?_ _) | (with_reducible refine Kd.C_drew ?_))); (case side4 => exact (Kd.R_reads' HO632.out).2.1); rintro e w26 ⟨v635, v638, rfl, ho0, ho1, hb⟩; refine ⟨_, rfl, ?_⟩; replace HO616 := zA (Kd.V_mono (Kd.V_told (Kd.V_told (Kd.V_old (zV HO616.out) hb) (Kd.R_base ho0)) (Kd.R_base ho1)) (fun _ h_ => h_.1)); replace HO619 := zA (Kd.V_mono (Kd.V_told (Kd.V_told (Kd.V_old (zV HO619.out) hb) (Kd.R_base ho0)) (Kd.R_base ho1)) (fun _ h_ => h_.1)); replace HO623 := zA (Kd.V_mono (Kd.V_told (Kd.V_told (Kd.V_old (zV HO623.out) hb) (Kd.R_base ho0)) (Kd.R_base ho1)) (fun _ h_ => h_.1)); replace HO626 := zA (Kd.V_mono (Kd.V_told (Kd.V_told (Kd.V_old (zV HO626.out) hb) (Kd.R_base ho0)) (Kd.R_base ho1)) (fun _ h_ => h_.1)); have HO636 := zA (Kd.R_lower (Kd.R_new' (Kd.R_new' ho0 (Kd.R_lt (zR HO629.out))) (Kd.R_lt (zR HO632.out))) (below_size (by repeat (first | (with_reducible first | exact HB.out | apply below_alloc | apply pw_below_drewN | apply below_drew1 | refine below_set ?_ GE610.out | refine below_set ?_ GE611.out | refine below_set ?_ GE612.out) | exact HB.out)))); have HO639 := zA (Kd.R_lower (Kd.R_new' (Kd.R_new' ho1 (Kd.R_lt (zR HO629.out))) (Kd.R_lt (zR HO632.out))) (below_size (by repeat (first | (with_reducible first | exact HB.out | apply below_alloc | apply pw_below_drewN | apply below_drew1 | refine below_set ?_ GE610.out | refine below_set ?_ GE611.out | refine below_set ?_ GE612.out) | exact HB.out)))); replace HO629 := zA (Kd.R_mono (Kd.R_told (Kd.R_told (Kd.R_old (zR HO629.out) hb) (Kd.R_base ho0)) (Kd.R_base ho1)) (fun _ h_ => h_.1)); replace HO632 := zA (Kd.R_mono (Kd.R_told (Kd.R_told (Kd.R_old (zR HO632.out) hb) (Kd.R_base ho0)) (Kd.R_base ho1)) (fun _ h_ => h_.1)); replace BK610 := zA (blk_below (zB BK610.out) hb); replace BK611 := zA (blk_below (zB BK611.out) hb); replace BK612 := zA (blk_below (zB BK612.out) hb); replace HB := zA (below_step (by repeat (first | (with_reducible first | exact HB.out | apply below_alloc | apply pw_below_drewN | apply below_drew1 | refine below_set ?_ GE610.out | refine below_set ?_ GE611.out | refine below_set ?_ GE612.out) | exact HB.out)) hb); (try clear hb); (try clear hb2); (try clear hk); (try clear hi); (try clear ho0); (try clear ho1); have hcz27_0 := zc BK612 0 (v := .bool false) rfl; have hcz27_1 := zc BK612 1 (v := .slice none 0 0) rfl; have hcz27_2 := zc BK612 2 (v := .slice none 0 0) rfl; have hfz27_0 := zF BK612 0; have hfz27_1 := zF BK612 1; have hfz27_2 := zF BK612 2; obtain ⟨Ao28, co28, eo28⟩ := Kd.R_slice HO636.out; subst eo28; obtain ⟨Ao29, co29, eo29⟩ := Kd.R_slice HO639.out; subst eo29))
 refine bodyPost_ret (results_cell_row rfl _ _ gb612 25 #[.bool t633, .slice Ao28 t634.length co28, .slice Ao29 t637.length co29] (0, 0) _ rfl (by (with_reducible repeat (first | refine blk_drewN ?_ _ | refine blk_drew ?_ | refine blk_alloc ?_ _)); refine blk_put (cs := #[.bool t633, .slice Ao28 t634.length co28, .slice none 0 0]) ?_ 2 _ rfl; (with_reducible repeat (first | refine blk_drewN ?_ _ | refine blk_drew ?_ | refine blk_alloc ?_ _)); refine blk_put (cs := #[.bool t633, .slice none 0 0, .slice none 0 0]) ?_ 1 _ rfl; (with_reducible repeat (first | refine blk_drewN ?_ _ | refine blk_drew ?_ | refine blk_alloc ?_ _)); refine blk_put (cs := #[.bool false, .slice none 0 0, .slice none 0 0]) ?_ 0 _ rfl; (with_reducible repeat (first | refine blk_drewN ?_ _ | refine blk_drew ?_ | refine blk_alloc ?_ _)); exact BK612.out) Tryd.underlying25 rfl zk) rfl ?_
 exact ⟨_, _, zE, zRM (Kd.R_far (p := ⟨gb612, 2, none⟩) (Kd.R_far (p := ⟨gb612, 1, none⟩) (Kd.R_far (p := ⟨gb612, 0, none⟩) (Kd.R_types HO636.out BK612.out (by decide)) (fun _ hk => hk.2) (.bool t633)) (fun _ hk => hk.2) (.slice Ao28 t634.length co28)) (fun _ hk => hk.2) (.slice Ao29 t637.length co29)) (fun _ hk => hk.1.1.1), zRM (Kd.R_far (p := ⟨gb612, 2, none⟩) (Kd.R_far (p := ⟨gb612, 1, none⟩) (Kd.R_far (p := ⟨gb612, 0, none⟩) (Kd.R_types HO639.out BK612.out (by decide)) (fun _ hk => hk.2) (.bool t633)) (fun _ hk => hk.2) (.slice Ao28 t634.length co28)) (fun _ hk => hk.2) (.slice Ao29 t637.length co29)) (fun _ hk => hk.1.1.1), by repeat (first | (with_reducible first | exact HB.out | apply below_alloc | apply pw_below_drewN | apply below_drew1 | refine below_set ?_ GE610.out | refine below_set ?_ GE611.out | refine below_set ?_ GE612.out) | exact HB.out)⟩

end Go.Proofs.YtoeldfopjalpkaaDoor.Q

