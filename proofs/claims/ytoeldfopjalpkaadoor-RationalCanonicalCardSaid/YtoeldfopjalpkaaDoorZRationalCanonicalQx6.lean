/- Lemmas for the proof of one law of this seat (Qx6). -/
import Derived.Test.YtoeldfopjalpkaaDoorZRationalCanonicalQx0
import Derived.Test.YtoeldfopjalpkaaDoorZRationalCanonicalQx1
import Derived.Test.YtoeldfopjalpkaaDoorZRationalCanonicalQx5
import Derived.Test.YtoeldfopjalpkaaDoorZRationalCanonicalZip
namespace Go.Proofs.YtoeldfopjalpkaaDoor.Q
open Go.RowKit Go.Proofs.YtoeldfopjalpkaaDoorW.PrintWords Go.Proofs.YtoeldfopjalpkaaDoorW.PrintLast Go.Proofs.YtoeldfopjalpkaaDoorW.PrintMore
attribute [local go_sem] max2_int min2_int max_two min_two max_three min_three max_four min_four   -- for this text's walks alone
set_option linter.unusedVariables false
set_option linter.unusedSimpArgs false

mutual
def rational_reduce.j0 : Nat → Bool → List Int → List Int → Bool → Option (Bool × List Int × List Int)
 | 0, _, _, _, _ => none
 | k + 1, x0, x1, x2, x19 => if x19 = true then ((rational_one.f).bind fun t284 => (some (false, ([] : List Int), t284))) else (if (x2.length : Int) > 1 then (rational_reduce.j1 k x0 x1 x2 true) else (if 0 < (x2.length : Int) then (rational_reduce.j1 k x0 x1 x2 ((rd x2 0) != 1)) else (none)))
def rational_reduce.j1 : Nat → Bool → List Int → List Int → Bool → Option (Bool × List Int × List Int)
 | 0, _, _, _, _ => none
 | k + 1, x0, x1, x2, x30 => if x30 = true then ((bignat_GCD.f k x1 x2).bind fun t288 => (if (t288.length : Int) > 1 then (rational_reduce.j2 k x0 x1 x2 t288 true) else (if 0 < (t288.length : Int) then (rational_reduce.j2 k x0 x1 x2 t288 ((rd t288 0) != 1)) else (none)))) else (some (x0, x1, x2))
def rational_reduce.j2 : Nat → Bool → List Int → List Int → List Int → Bool → Option (Bool × List Int × List Int)
 | 0, _, _, _, _, _ => none
 | k + 1, x0, x1, x2, x7, x42 => if x42 = true then ((bignat_DivMod.f k x1 x7).bind fun bt292 => ((bignat_DivMod.f k x2 x7).bind fun bt299 => (some (x0, bt292.1, bt299.1)))) else (some (x0, x1, x2))
end
def rational_reduce.f (k : Nat) (a0 : Bool) (l1 : List Int) (l2 : List Int) : Option (Bool × List Int × List Int) := (bignat_Normalize.f k l1).bind fun t278 => ((bignat_Normalize.f k l2).bind fun t281 => (if (t278.length : Int) = 0 then (rational_reduce.j0 k a0 t278 t281 true) else (rational_reduce.j0 k a0 t278 t281 ((t281.length : Int) == 0))))
theorem rational_reduce.mono_l : ∀ k, (∀ y0 y1 y2 y3, LeO (rational_reduce.j0 k y0 y1 y2 y3) (rational_reduce.j0 (k + 1) y0 y1 y2 y3)) ∧ (∀ y0 y1 y2 y3, LeO (rational_reduce.j1 k y0 y1 y2 y3) (rational_reduce.j1 (k + 1) y0 y1 y2 y3)) ∧ (∀ y0 y1 y2 y3 y4, LeO (rational_reduce.j2 k y0 y1 y2 y3 y4) (rational_reduce.j2 (k + 1) y0 y1 y2 y3 y4))
 | 0 => ⟨fun _ _ _ _ r h => by simp [rational_reduce.j0] at h, fun _ _ _ _ r h => by simp [rational_reduce.j1] at h, fun _ _ _ _ _ r h => by simp [rational_reduce.j2] at h⟩
 | k + 1 => by
  obtain ⟨ih0, ih1, ih2⟩ := rational_reduce.mono_l k
  refine ⟨?_, ?_, ?_⟩
  ·
   intro y0 y1 y2 y3
   unfold rational_reduce.j0
   exact zm6 ih0 ih1 ih2 bignat_DivMod.mono bignat_GCD.mono bignat_Normalize.mono
  ·
   intro y0 y1 y2 y3
   unfold rational_reduce.j1
   exact zm6 ih0 ih1 ih2 bignat_DivMod.mono bignat_GCD.mono bignat_Normalize.mono
  intro y0 y1 y2 y3 y4
  unfold rational_reduce.j2
  exact zm6 ih0 ih1 ih2 bignat_DivMod.mono bignat_GCD.mono bignat_Normalize.mono
theorem rational_reduce.mono : ∀ a0 a1 a2 k, LeO (rational_reduce.f k a0 a1 a2) (rational_reduce.f (k + 1) a0 a1 a2) := by
 intro a0 a1 a2 k
 obtain ⟨ih0, ih1, ih2⟩ := rational_reduce.mono_l k
 unfold rational_reduce.f
 exact zm6 ih0 ih1 ih2 bignat_DivMod.mono bignat_GCD.mono bignat_Normalize.mono
set_option maxHeartbeats 8000000 in
set_option maxRecDepth 100000 in
theorem rational_reduce.calls (k : Nat) (a0 : Bool) (A1 : Option Addr) (c1 : Nat) (l1 : List Int) (A2 : Option Addr) (c2 : Nat) (l2 : List Int) (r1 : Bool) (r2 : List Int) (r3 : List Int) (w : World) (hr1 : Kd.C (Kd.int .u32) w A1 l1.length l1) (hc1 : l1.length ≤ c1) (hr2 : Kd.C (Kd.int .u32) w A2 l2.length l2) (hc2 : l2.length ≤ c2) (h : rational_reduce.f k a0 l1 l2 = some (r1, r2, r3)) :
 Calls Tryd.prog 46 #[.bool a0, .slice A1 l1.length c1, .slice A2 l2.length c2] w fun e w' => ∃ v1_ v2_ : Value, e = .returned (.agg #[.bool r1, v1_, v2_]) ∧ Kd.R (Kd.int .u32) 37 w' w.heap.size (fun k_ => some k_ ≠ (v2_ : Value).ownBlock) v1_ r2 ∧ Kd.R (Kd.int .u32) 37 w' w.heap.size (fun k_ => some k_ ≠ (v1_ : Value).ownBlock) v2_ r3 ∧ Below w.heap.size w w' := by
 have hu25 := Tryd.underlying25
 have HR1 := zA hr1
 have HC1 := zA hc1
 clear hr1 hc1
 have HR2 := zA hr2
 have HC2 := zA hc2
 clear hr2 hc2
 have HB := zA (Below.refl w.heap.size w)
 have H : ((bignat_Normalize.f k l1).bind fun t278 => ((bignat_Normalize.f k l2).bind fun t281 => (if (t278.length : Int) = 0 then (rational_reduce.j0 k a0 t278 t281 true) else (rational_reduce.j0 k a0 t278 t281 ((t281.length : Int) == 0))))) = some (r1, r2, r3) := h
 clear h
 obtain ⟨t278, A40, H⟩ := zi H
 replace H : ((bignat_Normalize.f k l2).bind fun t281 => (if (t278.length : Int) = 0 then (rational_reduce.j0 k a0 t278 t281 true) else (rational_reduce.j0 k a0 t278 t281 ((t281.length : Int) == 0)))) = some (r1, r2, r3) := H
 have A4 := zA A40
 clear A40
 obtain ⟨t281, A50, H⟩ := zi H
 replace H : (if (t278.length : Int) = 0 then (rational_reduce.j0 k a0 t278 t281 true) else (rational_reduce.j0 k a0 t278 t281 ((t281.length : Int) == 0))) = some (r1, r2, r3) := H
 have A5 := zA A50
 clear A50
 have HC6 := zA H
 clear H
 go_enter Tryd.func46, Tryd.ntmps46
 go_upto_region 2 with (first | ((with_reducible refine gate_dst (N := 6) rfl ?_); (try (refine gate_guard (by rfl) ?_; dsimp only)); refine box_event ?hg (N := 6) ?hd (cs := #[.bool false, .slice none 0 0, .slice none 0 0]) (t := 25) ?hr ?_; (case hd => rfl); (case hg => rfl); (case hr => first | (go_simp; done) | (go_simp; rfl)); intro gb277 hg w7 hbox hb; have BK277 := zA (hbox); have GW277 := zA ((by rw [hg]; exact (below_size (zb HB rfl)) : w.heap.size ≤ gb277)); have GE277 := zA ((by rw [hg]; exact (below_size (zb HB rfl)) : w.heap.size ≤ gb277)); replace HB := zbb HB hb rfl; clear hb hbox hg) | ((with_reducible refine gate_callee (f := 76) rfl ?_); refine goesL_ (some 9) rfl rfl Tryd.func76 zk rfl #[.slice A1 l1.length c1] rfl zX ?_; (with_reducible refine (bignat_Normalize.calls k _ _ l1 t278 _ ?side1 ?side2 A4.out).mono ?_); (case side1 => exact zC (Kd.C_below HR1.out HB.out)); (case side2 => exact HC1.out); rintro e w8 ⟨v279, rfl, ho0, hb⟩; refine ⟨_, rfl, ?_⟩; have HO280 := zA (Kd.R_lower ho0 (below_size (zb HB rfl))); replace BK277 := zkb BK277 hb; replace HB := zbb HB hb rfl) | ((with_reducible refine gate_callee (f := 76) rfl ?_); refine goesL_ (some 11) rfl rfl Tryd.func76 zk rfl #[.slice A2 l2.length c2] rfl zX ?_; (with_reducible refine (bignat_Normalize.calls k _ _ l2 t281 _ ?side1 ?side2 A5.out).mono ?_); (case side1 => exact zC (Kd.C_below HR2.out HB.out)); (case side2 => exact HC2.out); rintro e w9 ⟨v282, rfl, ho0, hb⟩; refine ⟨_, rfl, ?_⟩; have HO283 := zA (Kd.R_lower (Kd.R_new' ho0 (Kd.R_lt (zr HO280 rfl))) (below_size (zb HB rfl))); replace HO280 := zA (Kd.R_elder' (zr HO280 rfl) (Kd.R_base ho0) hb); replace BK277 := zkb BK277 hb; replace HB := zbb HB hb rfl))
 (try simp only [Act.put, List.setIfInBounds_toArray, List.set_cons_zero, List.set_cons_succ])
 go_cut [19] (fun v19 wc => ∃ (kq : Nat) (x19_5 : Bool), v19 = .bool x19_5 ∧ Aside0 (rational_reduce.j0 kq a0 t278 t281 x19_5 = some (r1, r2, r3)) ∧ Aside0 (kq ≤ k) ∧ Aside0 (Kd.R (Kd.int .u32) 37 wc w.heap.size (fun k_ => some k_ ≠ (v282 : Value).ownBlock) v279 t278) ∧ Aside0 (Kd.R (Kd.int .u32) 37 wc w.heap.size (fun k_ => some k_ ≠ (v279 : Value).ownBlock) v282 t281) ∧ Aside0 (wc.heap[gb277]? = some (.cells #[.bool false, (.slice none 0 0), (.slice none 0 0)] 25 (0, 0))) ∧ Aside0 (Below w.heap.size w wc))
 case first =>
  have H := HC6.out
  clear HC6
  by_cases c10 : (t278.length : Int) = 0
  ·
   rw [if_pos c10] at H
   have c10b0 := beq_iff_eq.mpr c10
   have c10b1 := bne_eq_false_iff_eq.mpr c10
   clear c10
   (first | rw [c10b0] | rw [c10b1] | (simp only [i64_w, i32_w]; rw [c10b0]) | skip)
   have H' := zA H
   clear H
   obtain ⟨Ao11, co11, eo11⟩ := Kd.R_slice HO280.out
   subst eo11
   go_wp2
   go_meet
   case rel => exact ⟨_, (true), zS, H', ⟨by first | omega | exact Nat.le_refl _⟩, ⟨zRM HO280.out (fun _ hk => hk.2)⟩, ⟨zRM HO283.out (fun _ hk => hk.2)⟩, ⟨zB BK277.out⟩, ⟨zG1 GE277.out⟩⟩
  rw [if_neg c10] at H
  have c10b0 := beq_eq_false_iff_ne.mpr c10
  have c10b1 := bne_iff_ne.mpr c10
  have c10b2 : ¬ (t278 = []) := fun h_ => c10 (by rw [h_]; rfl)
  (first | rw [c10b0] | rw [c10b1] | (simp only [i64_w, i32_w]; rw [c10b0]) | skip)
  have H' := zA H
  clear H
  obtain ⟨Ao12, co12, eo12⟩ := Kd.R_slice HO280.out
  subst eo12
  obtain ⟨Ao13, co13, eo13⟩ := Kd.R_slice HO283.out
  subst eo13
  go_wp2
  go_meet
  case rel => exact ⟨_, (((t281.length : Int) == 0)), zS, H', ⟨by first | omega | exact Nat.le_refl _⟩, ⟨zRM HO280.out (fun _ hk => hk.2)⟩, ⟨zRM HO283.out (fun _ hk => hk.2)⟩, ⟨zB BK277.out⟩, ⟨zG1 GE277.out⟩⟩
 case rest =>
  clear HC6
  try clear c1
  try clear c2
  try clear p2
  try clear c4
  try clear c7
  try clear c10
  try clear c10b0
  try clear c10b1
  try clear c10b2
  obtain ⟨kq, x19_5, rfl, HA, HJ5, HO_1, HO_2, BK277, HB⟩ := hcut
  cases kq with
  | zero => exact absurd HA.out (by simp [rational_reduce.j0])
  | succ kj5 =>
   have H := HA.out
   clear HA
   simp only [rational_reduce.j0] at H
   by_cases c14 : x19_5 = true
   ·
    subst c14
    have H1 : ((rational_one.f).bind fun t284 => (some (false, ([] : List Int), t284))) = some (r1, r2, r3) := by rw [if_pos rfl] at H; exact H
    clear H
    have H := H1
    clear H1
    obtain ⟨t284, A150, H⟩ := zi H
    replace H : (some (false, ([] : List Int), t284)) = some (r1, r2, r3) := H
    have A15 := zA A150
    clear A150
    simp only [Option.some.injEq, Prod.mk.injEq] at H
    obtain ⟨rfl, rfl, rfl⟩ := H
    go_wp2_with (first | ((with_reducible refine gate_callee (f := 56) rfl ?_); refine goesL_ (some 20) rfl rfl Tryd.func56 zk rfl #[] rfl zX ?_; (with_reducible refine (rational_one.calls  t284 _ A15.out).mono ?_); rintro e w16 ⟨v285, rfl, ho0, hb⟩; refine ⟨_, rfl, ?_⟩; have HO286 := zA (Kd.R_lower (Kd.R_new' (Kd.R_new' ho0 (Kd.R_lt (zr HO_1 rfl))) (Kd.R_lt (zr HO_2 rfl))) (below_size (zb HB rfl))); replace HO_1 := zA (Kd.R_elder' (zr HO_1 rfl) (Kd.R_base ho0) hb); replace HO_2 := zA (Kd.R_elder' (zr HO_2 rfl) (Kd.R_base ho0) hb); replace BK277 := zkb BK277 hb; replace HB := zbb HB hb rfl; obtain ⟨Ao17, co17, eo17⟩ := Kd.R_slice HO286.out; subst eo17; have hcz18_0 := zc BK277 0 (v := .bool false) rfl; have hcz18_1 := zc BK277 1 (v := .slice none 0 0) rfl; have hcz18_2 := zc BK277 2 (v := .slice none 0 0) rfl; have hfz18_0 := zF BK277 0; have hfz18_1 := zF BK277 1; have hfz18_2 := zF BK277 2))
    refine bodyPost_ret (results_cell_row rfl _ _ gb277 25 #[.bool false, .slice none 0 0, .slice Ao17 t284.length co17] (0, 0) _ rfl (by (with_reducible repeat (first | refine blk_drewN ?_ _ | refine blk_drew ?_ | refine blk_alloc ?_ _)); refine blk_put (cs := #[.bool false, .slice none 0 0, .slice none 0 0]) ?_ 2 _ rfl; (with_reducible repeat (first | refine blk_drewN ?_ _ | refine blk_drew ?_ | refine blk_alloc ?_ _)); refine blk_put (cs := #[.bool false, .slice none 0 0, .slice none 0 0]) ?_ 1 _ rfl; (with_reducible repeat (first | refine blk_drewN ?_ _ | refine blk_drew ?_ | refine blk_alloc ?_ _)); refine blk_put (cs := #[.bool false, .slice none 0 0, .slice none 0 0]) ?_ 0 _ rfl; (with_reducible repeat (first | refine blk_drewN ?_ _ | refine blk_drew ?_ | refine blk_alloc ?_ _)); exact BK277.out) Tryd.underlying25 rfl zk) rfl ?_
    exact ⟨_, _, zE, by first | exact Kd.R_nil _ _ _ _ _ | exact Kd.V_nil _ _ _ _ _, zRM (Kd.R_far (p := ⟨gb277, 2, none⟩) (Kd.R_far (p := ⟨gb277, 1, none⟩) (Kd.R_far (p := ⟨gb277, 0, none⟩) (Kd.R_types HO286.out BK277.out (by decide)) (fun _ hk => hk.2) (.bool false)) (fun _ hk => hk.2) (.slice none 0 0)) (fun _ hk => hk.2) (.slice Ao17 t284.length co17)) (fun _ hk => (by simp [Value.ownBlock])), zG1 GE277.out⟩
   replace c14 := Bool.eq_false_iff.mpr c14
   subst c14
   have H1 : (if (t281.length : Int) > 1 then (rational_reduce.j1 kj5 a0 t278 t281 true) else (if 0 < (t281.length : Int) then (rational_reduce.j1 kj5 a0 t278 t281 ((rd t281 0) != 1)) else (none))) = some (r1, r2, r3) := by rw [if_neg (show ¬ (false = true) by decide)] at H; exact H
   clear H
   have H := H1
   clear H1
   have HC19 := zA H
   clear H
   go_upto_region 4 with (fail)
   go_cut [30] (fun v30 wc => ∃ (kq : Nat) (x30_18 : Bool), v30 = .bool x30_18 ∧ Aside0 (rational_reduce.j1 kq a0 t278 t281 x30_18 = some (r1, r2, r3)) ∧ Aside0 (kq ≤ kj5) ∧ Aside0 (Kd.R (Kd.int .u32) 37 wc w.heap.size (fun k_ => some k_ ≠ (v282 : Value).ownBlock) v279 t278) ∧ Aside0 (Kd.R (Kd.int .u32) 37 wc w.heap.size (fun k_ => some k_ ≠ (v279 : Value).ownBlock) v282 t281) ∧ Aside0 (wc.heap[gb277]? = some (.cells #[.bool false, (.slice none 0 0), (.slice none 0 0)] 25 (0, 0))) ∧ Aside0 (Below w.heap.size w wc))
   case first =>
    have H := HC19.out
    clear HC19
    by_cases c20 : (t281.length : Int) > 1
    ·
     rw [if_pos c20] at H
     have c20b0 : decide (1 < (t281.length : Int)) = true := decide_eq_true c20
     have c20b1 : decide (1 < t281.length) = true := decide_eq_true (by omega)
     clear c20
     (first | rw [c20b0] | rw [c20b1] | (simp only [i64_w, i32_w]; rw [c20b0]) | skip)
     have H' := zA H
     clear H
     obtain ⟨Ao21, co21, eo21⟩ := Kd.R_slice HO_2.out
     subst eo21
     go_wp2
     go_meet
     case rel => exact ⟨_, (true), zS, H', ⟨by have := HJ5.out; first | omega | exact Nat.le_refl _⟩, ⟨zR HO_1.out⟩, ⟨zR HO_2.out⟩, ⟨zB BK277.out⟩, ⟨zG1 GE277.out⟩⟩
    rw [if_neg c20] at H
    have c20b0 : decide (1 < (t281.length : Int)) = false := decide_eq_false c20
    have c20b1 : decide (1 < t281.length) = false := decide_eq_false (by omega)
    clear c20
    (first | rw [c20b0] | rw [c20b1] | (simp only [i64_w, i32_w]; rw [c20b0]) | skip)
    by_cases c22 : 0 < (t281.length : Int)
    ·
     rw [if_pos c22] at H
     have c22b0 := decide_eq_true c22
     have c22b1 : decide (0 < t281.length) = true := decide_eq_true (by omega)
     clear c22
     have H' := zA H
     clear H
     obtain ⟨Ao23, co23, eo23⟩ := Kd.R_slice HO_2.out
     subst eo23
     have p287 : 0 ≤ (0 : Int) := (by omega)
     have q287 : 0 < (t281.length : Int) := zD
     obtain ⟨ad287, e287, hx287_0⟩ := Kd.at_int (Kd.R_reads' HO_2.out).2.2 0 p287 q287
     cases e287
     have qi287 : (0 < t281.length) = True := eq_true (by omega)
     (try rw [show ((0 : Int)).toNat = 0 from rfl] at hx287_0)
     (try rw [Addr.add_zero'] at hx287_0)
     replace p287 := eq_true p287
     replace q287 := eq_true q287
     go_wp2
     go_meet
     case rel => exact ⟨_, (((rd t281 0) != 1)), zS, H', ⟨by have := HJ5.out; first | omega | exact Nat.le_refl _⟩, ⟨zR HO_1.out⟩, ⟨zR HO_2.out⟩, ⟨zB BK277.out⟩, ⟨zG1 GE277.out⟩⟩
    rw [if_neg c22] at H
    cases H
   case rest =>
    clear HC19
    try clear c1
    try clear c2
    try clear p2
    try clear q2
    try clear hx2
    try clear qi2
    try clear c4
    try clear c5
    try clear c7
    try clear c10
    try clear c10b0
    try clear c10b1
    try clear c10b2
    try clear c14
    try clear c20
    try clear c20b0
    try clear c20b1
    try clear c22
    try clear c22b0
    try clear c22b1
    try clear hcz18_0
    try clear hcz18_1
    try clear hcz18_2
    try clear hfz18_0
    try clear hfz18_1
    try clear hfz18_2
    try clear hx287_0
    try clear p2
    try clear p287
    try clear q287
    obtain ⟨kq, x30_18, rfl, HA, HJ18, HO_1, HO_2, BK277, HB⟩ := hcut
    cases kq with
    | zero => exact absurd HA.out (by simp [rational_reduce.j1])
    | succ kj18 =>
     have H := HA.out
     clear HA
     simp only [rational_reduce.j1] at H
     by_cases c24 : x30_18 = true
     ·
      subst c24
      have H1 : ((bignat_GCD.f kj18 t278 t281).bind fun t288 => (if (t288.length : Int) > 1 then (rational_reduce.j2 kj18 a0 t278 t281 t288 true) else (if 0 < (t288.length : Int) then (rational_reduce.j2 kj18 a0 t278 t281 t288 ((rd t288 0) != 1)) else (none)))) = some (r1, r2, r3) := by rw [if_pos rfl] at H; exact H
      clear H
      have H := H1
      clear H1
      obtain ⟨t288, A250, H⟩ := zi H
      replace H : (if (t288.length : Int) > 1 then (rational_reduce.j2 kj18 a0 t278 t281 t288 true) else (if 0 < (t288.length : Int) then (rational_reduce.j2 kj18 a0 t278 t281 t288 ((rd t288 0) != 1)) else (none))) = some (r1, r2, r3) := H
      have A25 := zA A250
      clear A250
      have HC26 := zA H
      clear H
      obtain ⟨Ao27, co27, eo27⟩ := Kd.R_slice HO_1.out
      subst eo27
      obtain ⟨Ao28, co28, eo28⟩ := Kd.R_slice HO_2.out
      subst eo28
      go_upto_region 6 with (first | ((with_reducible refine gate_callee (f := 77) rfl ?_); refine goesL_ (some 33) rfl rfl Tryd.func77 zk rfl #[.slice Ao27 t278.length co27, .slice Ao28 t281.length co28] rfl zX ?_; (with_reducible refine (bignat_GCD.calls kj18 _ _ t278 _ _ t281 t288 _ ?side1 ?side2 ?side3 ?side4 A25.out).mono ?_); (case side1 => exact zC (Kd.R_reads' HO_1.out).2.2); (case side2 => exact (Kd.R_reads' HO_1.out).2.1); (case side3 => exact zC (Kd.R_reads' HO_2.out).2.2); (case side4 => exact (Kd.R_reads' HO_2.out).2.1); rintro e w29 ⟨v289, rfl, ho0, hb⟩; refine ⟨_, rfl, ?_⟩; have HO290 := zA (Kd.R_lower (Kd.R_new' (Kd.R_new' ho0 (Kd.R_lt (zr HO_1 rfl))) (Kd.R_lt (zr HO_2 rfl))) (below_size (zb HB rfl))); replace HO_1 := zA (Kd.R_elder' (zr HO_1 rfl) (Kd.R_base ho0) hb); replace HO_2 := zA (Kd.R_elder' (zr HO_2 rfl) (Kd.R_base ho0) hb); replace BK277 := zkb BK277 hb; replace HB := zbb HB hb rfl))
      (try simp only [Act.put, List.setIfInBounds_toArray, List.set_cons_zero, List.set_cons_succ])
      go_cut [42] (fun v42 wc => ∃ (kq : Nat) (x42_25 : Bool), v42 = .bool x42_25 ∧ Aside0 (rational_reduce.j2 kq a0 t278 t281 t288 x42_25 = some (r1, r2, r3)) ∧ Aside0 (kq ≤ kj18) ∧ Aside0 (Kd.R (Kd.int .u32) 37 wc w.heap.size (fun k_ => some k_ ≠ ((.slice Ao28 t281.length co28) : Value).ownBlock ∧ some k_ ≠ (v289 : Value).ownBlock) (.slice Ao27 t278.length co27) t278) ∧ Aside0 (Kd.R (Kd.int .u32) 37 wc w.heap.size (fun k_ => some k_ ≠ ((.slice Ao27 t278.length co27) : Value).ownBlock ∧ some k_ ≠ (v289 : Value).ownBlock) (.slice Ao28 t281.length co28) t281) ∧ Aside0 (Kd.R (Kd.int .u32) 37 wc w.heap.size (fun k_ => some k_ ≠ ((.slice Ao27 t278.length co27) : Value).ownBlock ∧ some k_ ≠ ((.slice Ao28 t281.length co28) : Value).ownBlock) v289 t288) ∧ Aside0 (wc.heap[gb277]? = some (.cells #[.bool false, (.slice none 0 0), (.slice none 0 0)] 25 (0, 0))) ∧ Aside0 (Below w.heap.size w wc))
      case first =>
       have H := HC26.out
       clear HC26
       by_cases c30 : (t288.length : Int) > 1
       ·
        rw [if_pos c30] at H
        have c30b0 : decide (1 < (t288.length : Int)) = true := decide_eq_true c30
        have c30b1 : decide (1 < t288.length) = true := decide_eq_true (by omega)
        clear c30
        (first | rw [c30b0] | rw [c30b1] | (simp only [i64_w, i32_w]; rw [c30b0]) | skip)
        have H' := zA H
        clear H
        obtain ⟨Ao31, co31, eo31⟩ := Kd.R_slice HO290.out
        subst eo31
        go_wp2
        go_meet
        case rel => exact ⟨_, (true), zS, H', ⟨by have := HJ5.out; have := HJ18.out; first | omega | exact Nat.le_refl _⟩, ⟨zR HO_1.out⟩, ⟨zR HO_2.out⟩, ⟨zRM HO290.out (fun _ hk => ⟨hk.1.2, hk.2⟩)⟩, ⟨zB BK277.out⟩, ⟨zG1 GE277.out⟩⟩
       rw [if_neg c30] at H
       have c30b0 : decide (1 < (t288.length : Int)) = false := decide_eq_false c30
       have c30b1 : decide (1 < t288.length) = false := decide_eq_false (by omega)
       clear c30
       (first | rw [c30b0] | rw [c30b1] | (simp only [i64_w, i32_w]; rw [c30b0]) | skip)
       by_cases c32 : 0 < (t288.length : Int)
       ·
        rw [if_pos c32] at H
        have c32b0 := decide_eq_true c32
        have c32b1 : decide (0 < t288.length) = true := decide_eq_true (by omega)
        clear c32
        have H' := zA H
        clear H
        obtain ⟨Ao33, co33, eo33⟩ := Kd.R_slice HO290.out
        subst eo33
        have p291 : 0 ≤ (0 : Int) := (by omega)
        have q291 : 0 < (t288.length : Int) := zD
        obtain ⟨ad291, e291, hx291_0⟩ := Kd.at_int (Kd.R_reads' HO290.out).2.2 0 p291 q291
        cases e291
        have qi291 : (0 < t288.length) = True := eq_true (by omega)
        (try rw [show ((0 : Int)).toNat = 0 from rfl] at hx291_0)
        (try rw [Addr.add_zero'] at hx291_0)
        replace p291 := eq_true p291
        replace q291 := eq_true q291
        go_wp2
        go_meet
        case rel => exact ⟨_, (((rd t288 0) != 1)), zS, H', ⟨by have := HJ5.out; have := HJ18.out; first | omega | exact Nat.le_refl _⟩, ⟨zR HO_1.out⟩, ⟨zR HO_2.out⟩, ⟨zRM HO290.out (fun _ hk => ⟨hk.1.2, hk.2⟩)⟩, ⟨zB BK277.out⟩, ⟨zG1 GE277.out⟩⟩
       rw [if_neg c32] at H
       cases H
      case rest =>
       clear HC26
       try clear c1
       try clear c2
       try clear p2
       try clear q2
       try clear hx2
       try clear qi2
       try clear c3
       try clear c4
       try clear c5
       try clear c7
       try clear c10
       try clear c10b0
       try clear c10b1
       try clear c10b2
       try clear c14
       try clear c20
       try clear c20b0
       try clear c20b1
       try clear c22
       try clear c22b0
       try clear c22b1
       try clear c24
       try clear p28
       try clear q28
       try clear hx28
       try clear qi28
       try clear p29
       try clear q29
       try clear hx29
       try clear qi29
       try clear c30
       try clear c30b0
       try clear c30b1
       try clear c32
       try clear c32b0
       try clear c32b1
       try clear hcz18_0
       try clear hcz18_1
       try clear hcz18_2
       try clear hfz18_0
       try clear hfz18_1
       try clear hfz18_2
       try clear hx287_0
       try clear hx291_0
       try clear p2
       try clear p287
       try clear p291
       try clear q2
       try clear q287
       try clear q291
       obtain ⟨kq, x42_25, rfl, HA, HJ25, HO_1, HO_2, HO_7, BK277, HB⟩ := hcut
       cases kq with
       | zero => exact absurd HA.out (by simp [rational_reduce.j2])
       | succ kj25 =>
        have H := HA.out
        clear HA
        simp only [rational_reduce.j2] at H
        by_cases c34 : x42_25 = true
        ·
         subst c34
         have H1 : ((bignat_DivMod.f kj25 t278 t288).bind fun bt292 => ((bignat_DivMod.f kj25 t281 t288).bind fun bt299 => (some (a0, bt292.1, bt299.1)))) = some (r1, r2, r3) := by rw [if_pos rfl] at H; exact H
         clear H
         have H := H1
         clear H1
         obtain ⟨⟨t292, t293, t294⟩, A350, H⟩ := zi H
         replace H : ((bignat_DivMod.f kj25 t281 t288).bind fun bt299 => (some (a0, t292, bt299.1))) = some (r1, r2, r3) := H
         have A35 := zA A350
         clear A350
         obtain ⟨⟨t299, t300, t301⟩, A360, H⟩ := zi H
         replace H : (some (a0, t292, t299)) = some (r1, r2, r3) := H
         have A36 := zA A360
         clear A360
         simp only [Option.some.injEq, Prod.mk.injEq] at H
         obtain ⟨rfl, rfl, rfl⟩ := H
         obtain ⟨Ao37, co37, eo37⟩ := Kd.R_slice HO_7.out
         subst eo37
         go_wp2_with (first | ((with_reducible refine gate_callee (f := 78) rfl ?_); refine goesL_ (some 46) rfl rfl Tryd.func78 zk rfl #[.slice Ao27 t278.length co27, .slice Ao37 t288.length co37] rfl zX ?_; (with_reducible refine (bignat_DivMod.calls kj25 _ _ t278 _ _ t288 t292 t293 t294 _ ?side1 ?side2 ?side3 ?side4 A35.out).mono ?_); (case side1 => exact zC (Kd.R_reads' HO_1.out).2.2); (case side2 => exact (Kd.R_reads' HO_1.out).2.1); (case side3 => exact zC (Kd.R_reads' HO_7.out).2.2); (case side4 => exact (Kd.R_reads' HO_7.out).2.1); rintro e w38 ⟨v295, v297, rfl, ho0, ho1, hb⟩; refine ⟨_, rfl, ?_⟩; have HO296 := zA (Kd.R_lower (Kd.R_new' (Kd.R_new' (Kd.R_new' ho0 (Kd.R_lt (zr HO_1 rfl))) (Kd.R_lt (zr HO_2 rfl))) (Kd.R_lt (zr HO_7 rfl))) (below_size (zb HB rfl))); have HO298 := zA (Kd.R_lower (Kd.R_new' (Kd.R_new' (Kd.R_new' ho1 (Kd.R_lt (zr HO_1 rfl))) (Kd.R_lt (zr HO_2 rfl))) (Kd.R_lt (zr HO_7 rfl))) (below_size (zb HB rfl))); replace HO_1 := zA (Kd.R_mono (Kd.R_told (Kd.R_told (Kd.R_old (zr HO_1 rfl) hb) (Kd.R_base ho0)) (Kd.R_base ho1)) (fun _ h_ => h_.1)); replace HO_2 := zA (Kd.R_mono (Kd.R_told (Kd.R_told (Kd.R_old (zr HO_2 rfl) hb) (Kd.R_base ho0)) (Kd.R_base ho1)) (fun _ h_ => h_.1)); replace HO_7 := zA (Kd.R_mono (Kd.R_told (Kd.R_told (Kd.R_old (zr HO_7 rfl) hb) (Kd.R_base ho0)) (Kd.R_base ho1)) (fun _ h_ => h_.1)); replace BK277 := zkb BK277 hb; replace HB := zbb HB hb rfl) | ((with_reducible refine gate_callee (f := 78) rfl ?_); refine goesL_ (some 53) rfl rfl Tryd.func78 zk rfl #[.slice Ao28 t281.length co28, .slice Ao37 t288.length co37] rfl zX ?_; (with_reducible refine (bignat_DivMod.calls kj25 _ _ t281 _ _ t288 t299 t300 t301 _ ?side1 ?side2 ?side3 ?side4 A36.out).mono ?_); (case side1 => exact zC (Kd.R_reads' HO_2.out).2.2); (case side2 => exact (Kd.R_reads' HO_2.out).2.1); (case side3 => exact zC (Kd.R_reads' HO_7.out).2.2); (case side4 => exact (Kd.R_reads' HO_7.out).2.1); rintro e w39 ⟨v302, v304, rfl, ho0, ho1, hb⟩; refine ⟨_, rfl, ?_⟩; have HO303 := zA (Kd.R_lower (Kd.R_new' (Kd.R_new' (Kd.R_new' (Kd.R_new' (Kd.R_new' ho0 (Kd.R_lt (zr HO_1 rfl))) (Kd.R_lt (zr HO_2 rfl))) (Kd.R_lt (zr HO_7 rfl))) (Kd.R_lt (zr HO296 rfl))) (Kd.R_lt (zr HO298 rfl))) (below_size (zb HB rfl))); have HO305 := zA (Kd.R_lower (Kd.R_new' (Kd.R_new' (Kd.R_new' (Kd.R_new' (Kd.R_new' ho1 (Kd.R_lt (zr HO_1 rfl))) (Kd.R_lt (zr HO_2 rfl))) (Kd.R_lt (zr HO_7 rfl))) (Kd.R_lt (zr HO296 rfl))) (Kd.R_lt (zr HO298 rfl))) (below_size (zb HB rfl))); replace HO_1 := zA (Kd.R_mono (Kd.R_told (Kd.R_told (Kd.R_old (zr HO_1 rfl) hb) (Kd.R_base ho0)) (Kd.R_base ho1)) (fun _ h_ => h_.1)); replace HO_2 := zA (Kd.R_mono (Kd.R_told (Kd.R_told (Kd.R_old (zr HO_2 rfl) hb) (Kd.R_base ho0)) (Kd.R_base ho1)) (fun _ h_ => h_.1)); replace HO_7 := zA (Kd.R_mono (Kd.R_told (Kd.R_told (Kd.R_old (zr HO_7 rfl) hb) (Kd.R_base ho0)) (Kd.R_base ho1)) (fun _ h_ => h_.1)); replace HO296 := zA (Kd.R_mono (Kd.R_told (Kd.R_told (Kd.R_old (zr HO296 rfl) hb) (Kd.R_base ho0)) (Kd.R_base ho1)) (fun _ h_ => h_.1)); replace HO298 := zA (Kd.R_mono (Kd.R_told (Kd.R_told (Kd.R_old (zr HO298 rfl) hb) (Kd.R_base ho0)) (Kd.R_base ho1)) (fun _ h_ => h_.1)); replace BK277 := zkb BK277 hb; replace HB := zbb HB hb rfl; obtain ⟨Ao40, co40, eo40⟩ := Kd.R_slice HO303.out; subst eo40; obtain ⟨Ao41, co41, eo41⟩ := Kd.R_slice HO296.out; subst eo41; have hcz42_0 := zc BK277 0 (v := .bool false) rfl; have hcz42_1 := zc BK277 1 (v := .slice none 0 0) rfl; have hcz42_2 := zc BK277 2 (v := .slice none 0 0) rfl; have hfz42_0 := zF BK277 0; have hfz42_1 := zF BK277 1; have hfz42_2 := zF BK277 2))
         refine bodyPost_ret (results_cell_row rfl _ _ gb277 25 #[.bool a0, .slice Ao41 t292.length co41, .slice Ao40 t299.length co40] (0, 0) _ rfl (by (with_reducible repeat (first | refine blk_drewN ?_ _ | refine blk_drew ?_ | refine blk_alloc ?_ _)); refine blk_put (cs := #[.bool a0, .slice Ao41 t292.length co41, .slice none 0 0]) ?_ 2 _ rfl; (with_reducible repeat (first | refine blk_drewN ?_ _ | refine blk_drew ?_ | refine blk_alloc ?_ _)); refine blk_put (cs := #[.bool a0, .slice none 0 0, .slice none 0 0]) ?_ 1 _ rfl; (with_reducible repeat (first | refine blk_drewN ?_ _ | refine blk_drew ?_ | refine blk_alloc ?_ _)); refine blk_put (cs := #[.bool false, .slice none 0 0, .slice none 0 0]) ?_ 0 _ rfl; (with_reducible repeat (first | refine blk_drewN ?_ _ | refine blk_drew ?_ | refine blk_alloc ?_ _)); exact BK277.out) Tryd.underlying25 rfl zk) rfl ?_
         exact ⟨_, _, zE, zRM (Kd.R_far (p := ⟨gb277, 2, none⟩) (Kd.R_far (p := ⟨gb277, 1, none⟩) (Kd.R_far (p := ⟨gb277, 0, none⟩) (Kd.R_types HO296.out BK277.out (by decide)) (fun _ hk => hk.2) (.bool a0)) (fun _ hk => hk.2) (.slice Ao41 t292.length co41)) (fun _ hk => hk.2) (.slice Ao40 t299.length co40)) (fun _ hk => hk.1.1.2), zRM (Kd.R_far (p := ⟨gb277, 2, none⟩) (Kd.R_far (p := ⟨gb277, 1, none⟩) (Kd.R_far (p := ⟨gb277, 0, none⟩) (Kd.R_types HO303.out BK277.out (by decide)) (fun _ hk => hk.2) (.bool a0)) (fun _ hk => hk.2) (.slice Ao41 t292.length co41)) (fun _ hk => hk.2) (.slice Ao40 t299.length co40)) (fun _ hk => hk.1.1.2), zG1 GE277.out⟩
        replace c34 := Bool.eq_false_iff.mpr c34
        subst c34
        have H1 : (some (a0, t278, t281)) = some (r1, r2, r3) := by rw [if_neg (show ¬ (false = true) by decide)] at H; exact H
        clear H
        have H := H1
        clear H1
        simp only [Option.some.injEq, Prod.mk.injEq] at H
        obtain ⟨rfl, rfl, rfl⟩ := H
        have hcz43_0 := zc BK277 0 (v := .bool false) rfl
        have hcz43_1 := zc BK277 1 (v := .slice none 0 0) rfl
        have hcz43_2 := zc BK277 2 (v := .slice none 0 0) rfl
        have hfz43_0 := zF BK277 0
        have hfz43_1 := zF BK277 1
        have hfz43_2 := zF BK277 2
        go_wp2
        refine bodyPost_ret (results_cell_row rfl _ _ gb277 25 #[.bool a0, .slice Ao27 t278.length co27, .slice Ao28 t281.length co28] (0, 0) _ rfl (by (with_reducible repeat (first | refine blk_drewN ?_ _ | refine blk_drew ?_ | refine blk_alloc ?_ _)); refine blk_put (cs := #[.bool a0, .slice Ao27 t278.length co27, .slice none 0 0]) ?_ 2 _ rfl; (with_reducible repeat (first | refine blk_drewN ?_ _ | refine blk_drew ?_ | refine blk_alloc ?_ _)); refine blk_put (cs := #[.bool a0, .slice none 0 0, .slice none 0 0]) ?_ 1 _ rfl; (with_reducible repeat (first | refine blk_drewN ?_ _ | refine blk_drew ?_ | refine blk_alloc ?_ _)); refine blk_put (cs := #[.bool false, .slice none 0 0, .slice none 0 0]) ?_ 0 _ rfl; (with_reducible repeat (first | refine blk_drewN ?_ _ | refine blk_drew ?_ | refine blk_alloc ?_ _)); exact BK277.out) Tryd.underlying25 rfl zk) rfl ?_
        exact ⟨_, _, zE, zRM (Kd.R_far (p := ⟨gb277, 2, none⟩) (Kd.R_far (p := ⟨gb277, 1, none⟩) (Kd.R_far (p := ⟨gb277, 0, none⟩) (Kd.R_types HO_1.out BK277.out (by decide)) (fun _ hk => hk.2) (.bool a0)) (fun _ hk => hk.2) (.slice Ao27 t278.length co27)) (fun _ hk => hk.2) (.slice Ao28 t281.length co28)) (fun _ hk => hk.1.1), zRM (Kd.R_far (p := ⟨gb277, 2, none⟩) (Kd.R_far (p := ⟨gb277, 1, none⟩) (Kd.R_far (p := ⟨gb277, 0, none⟩) (Kd.R_types HO_2.out BK277.out (by decide)) (fun _ hk => hk.2) (.bool a0)) (fun _ hk => hk.2) (.slice Ao27 t278.length co27)) (fun _ hk => hk.2) (.slice Ao28 t281.length co28)) (fun _ hk => hk.1.1), zG1 GE277.out⟩
     replace c24 := Bool.eq_false_iff.mpr c24
     subst c24
     have H1 : (some (a0, t278, t281)) = some (r1, r2, r3) := by rw [if_neg (show ¬ (false = true) by decide)] at H; exact H
     clear H
     have H := H1
     clear H1
     simp only [Option.some.injEq, Prod.mk.injEq] at H
     obtain ⟨rfl, rfl, rfl⟩ := H
     obtain ⟨Ao44, co44, eo44⟩ := Kd.R_slice HO_2.out
     subst eo44
     obtain ⟨Ao45, co45, eo45⟩ := Kd.R_slice HO_1.out
     subst eo45
     have hcz46_0 := zc BK277 0 (v := .bool false) rfl
     have hcz46_1 := zc BK277 1 (v := .slice none 0 0) rfl
     have hcz46_2 := zc BK277 2 (v := .slice none 0 0) rfl
     have hfz46_0 := zF BK277 0
     have hfz46_1 := zF BK277 1
     have hfz46_2 := zF BK277 2
     go_wp2
     refine bodyPost_ret (results_cell_row rfl _ _ gb277 25 #[.bool a0, .slice Ao45 t278.length co45, .slice Ao44 t281.length co44] (0, 0) _ rfl (by (with_reducible repeat (first | refine blk_drewN ?_ _ | refine blk_drew ?_ | refine blk_alloc ?_ _)); refine blk_put (cs := #[.bool a0, .slice Ao45 t278.length co45, .slice none 0 0]) ?_ 2 _ rfl; (with_reducible repeat (first | refine blk_drewN ?_ _ | refine blk_drew ?_ | refine blk_alloc ?_ _)); refine blk_put (cs := #[.bool a0, .slice none 0 0, .slice none 0 0]) ?_ 1 _ rfl; (with_reducible repeat (first | refine blk_drewN ?_ _ | refine blk_drew ?_ | refine blk_alloc ?_ _)); refine blk_put (cs := #[.bool false, .slice none 0 0, .slice none 0 0]) ?_ 0 _ rfl; (with_reducible repeat (first | refine blk_drewN ?_ _ | refine blk_drew ?_ | refine blk_alloc ?_ _)); exact BK277.out) Tryd.underlying25 rfl zk) rfl ?_
     exact ⟨_, _, zE, zRM (Kd.R_far (p := ⟨gb277, 2, none⟩) (Kd.R_far (p := ⟨gb277, 1, none⟩) (Kd.R_far (p := ⟨gb277, 0, none⟩) (Kd.R_types HO_1.out BK277.out (by decide)) (fun _ hk => hk.2) (.bool a0)) (fun _ hk => hk.2) (.slice Ao45 t278.length co45)) (fun _ hk => hk.2) (.slice Ao44 t281.length co44)) (fun _ hk => hk.1), zRM (Kd.R_far (p := ⟨gb277, 2, none⟩) (Kd.R_far (p := ⟨gb277, 1, none⟩) (Kd.R_far (p := ⟨gb277, 0, none⟩) (Kd.R_types HO_2.out BK277.out (by decide)) (fun _ hk => hk.2) (.bool a0)) (fun _ hk => hk.2) (.slice Ao45 t278.length co45)) (fun _ hk => hk.2) (.slice Ao44 t281.length co44)) (fun _ hk => hk.1), zG1 GE277.out⟩

def rational_magnitude.f (a0 : Int) : Option (List Int) := if a0 < 0 then ((bignat_FromUint64.f (IntKind.u64.wrap ((IntKind.u64.wrap (wrap64 (-(wrap64 (a0 + 1))))) + 1))).bind fun t306 => (some t306)) else ((bignat_FromUint64.f (IntKind.u64.wrap (a0))).bind fun t309 => (some t309))
set_option maxHeartbeats 8000000 in
set_option maxRecDepth 100000 in
theorem rational_magnitude.calls (a0 : Int) (r : List Int) (w : World) (h : rational_magnitude.f a0 = some r) :
 Calls Tryd.prog 47 #[.int .i64 a0] w fun e w' => ∃ v0_ : Value, e = .returned (v0_) ∧ Kd.R (Kd.int .u32) 37 w' w.heap.size (fun _ => True) v0_ r ∧ Below w.heap.size w w' := by
 have HB := zA (Below.refl w.heap.size w)
 have H : (if a0 < 0 then ((bignat_FromUint64.f (IntKind.u64.wrap ((IntKind.u64.wrap (wrap64 (-(wrap64 (a0 + 1))))) + 1))).bind fun t306 => (some t306)) else ((bignat_FromUint64.f (IntKind.u64.wrap (a0))).bind fun t309 => (some t309))) = some r := h
 clear h
 by_cases c2 : a0 < 0
 ·
  rw [if_pos c2] at H
  have c2b0 := decide_eq_true c2
  clear c2
  obtain ⟨t306, A30, H⟩ := zi H
  replace H : (some t306) = some r := H
  have A3 := zA A30
  clear A30
  obtain rfl := Option.some.inj H
  go_enter Tryd.func47, Tryd.ntmps47
  go_wp2_with (first | ((with_reducible refine gate_callee (f := 22) rfl ?_); refine goesL_ (some 10) rfl rfl Tryd.func22 zk rfl #[.int .u64 (IntKind.u64.wrap ((IntKind.u64.wrap (wrap64 (-(wrap64 (a0 + 1))))) + 1))] rfl zX ?_; (with_reducible refine (bignat_FromUint64.calls (IntKind.u64.wrap ((IntKind.u64.wrap (wrap64 (-(wrap64 (a0 + 1))))) + 1)) t306 _ A3.out).mono ?_); rintro e w4 ⟨v307, rfl, ho0, hb⟩; refine ⟨_, rfl, ?_⟩; have HO308 := zA (Kd.R_lower ho0 (below_size (zb HB rfl))); replace HB := zbb HB hb rfl))
  go_ret
  exact ⟨_, zE, zR HO308.out, zH⟩
 rw [if_neg c2] at H
 have c2b0 := decide_eq_false c2
 clear c2
 obtain ⟨t309, A50, H⟩ := zi H
 replace H : (some t309) = some r := H
 have A5 := zA A50
 clear A50
 obtain rfl := Option.some.inj H
 go_enter Tryd.func47, Tryd.ntmps47
 go_wp2_with (first | ((with_reducible refine gate_callee (f := 22) rfl ?_); refine goesL_ (some 13) rfl rfl Tryd.func22 zk rfl #[.int .u64 (IntKind.u64.wrap (a0))] rfl zX ?_; (with_reducible refine (bignat_FromUint64.calls (IntKind.u64.wrap (a0)) t309 _ A5.out).mono ?_); rintro e w6 ⟨v310, rfl, ho0, hb⟩; refine ⟨_, rfl, ?_⟩; have HO311 := zA (Kd.R_lower ho0 (below_size (zb HB rfl))); replace HB := zbb HB hb rfl))
 go_ret
 exact ⟨_, zE, zR HO311.out, zH⟩

def rational_New.f (k : Nat) (a0 : Int) (a1 : Int) : Option (Bool × List Int × List Int × Int) := if a1 = 0 then (some (false, ([] : List Int), ([] : List Int), 20)) else ((rational_magnitude.f a0).bind fun t313 => ((rational_magnitude.f a1).bind fun t316 => ((rational_reduce.f k ((decide (a0 < 0)) != (decide (a1 < 0))) t313 t316).bind fun bt319 => (some (bt319.1, bt319.2.1, bt319.2.2, 0)))))
theorem rational_New.mono : ∀ a0 a1 k, LeO (rational_New.f k a0 a1) (rational_New.f (k + 1) a0 a1) := by
 intro a0 a1 k
 unfold rational_New.f
 exact zm1 rational_reduce.mono
set_option maxHeartbeats 8000000 in
set_option maxRecDepth 100000 in
theorem rational_New.calls (k : Nat) (a0 : Int) (a1 : Int) (r1 : Bool) (r2 : List Int) (r3 : List Int) (r4 : Int) (w : World) (h : rational_New.f k a0 a1 = some (r1, r2, r3, r4)) :
 Calls Tryd.prog 11 #[.int .i64 a0, .int .i64 a1] w fun e w' => ∃ v1_ v2_ : Value, e = .returned (.tuple #[.agg #[.bool r1, v1_, v2_], .int .i64 r4]) ∧ Kd.R (Kd.int .u32) 37 w' w.heap.size (fun k_ => some k_ ≠ (v2_ : Value).ownBlock) v1_ r2 ∧ Kd.R (Kd.int .u32) 37 w' w.heap.size (fun k_ => some k_ ≠ (v1_ : Value).ownBlock) v2_ r3 ∧ Below w.heap.size w w' := by
 have hu25 := Tryd.underlying25
 have HB := zA (Below.refl w.heap.size w)
 have H : (if a1 = 0 then (some (false, ([] : List Int), ([] : List Int), 20)) else ((rational_magnitude.f a0).bind fun t313 => ((rational_magnitude.f a1).bind fun t316 => ((rational_reduce.f k ((decide (a0 < 0)) != (decide (a1 < 0))) t313 t316).bind fun bt319 => (some (bt319.1, bt319.2.1, bt319.2.2, 0)))))) = some (r1, r2, r3, r4) := h
 clear h
 by_cases c3 : a1 = 0
 ·
  rw [if_pos c3] at H
  have c3b0 := beq_iff_eq.mpr c3
  have c3b1 := bne_eq_false_iff_eq.mpr c3
  clear c3
  simp only [Option.some.injEq, Prod.mk.injEq] at H
  obtain ⟨rfl, rfl, rfl, rfl⟩ := H
  go_enter Tryd.func11, Tryd.ntmps11
  go_wp2_with (first | ((with_reducible refine gate_dst (N := 4) rfl ?_); refine box_event ?hg (N := 4) ?hd (cs := #[.bool false, .slice none 0 0, .slice none 0 0]) (t := 25) ?hr ?_; (case hd => rfl); (case hg => rfl); (case hr => first | (go_simp; done) | (go_simp; rfl)); intro gb312 hg w4 hbox hb; have BK312 := zA (hbox); have GW312 := zA ((by rw [hg]; exact (below_size zH) : w.heap.size ≤ gb312)); have GE312 := zA ((by rw [hg]; exact (below_size zH) : w.heap.size ≤ gb312)); replace HB := zA (below_step zH hb); clear hb hbox hg; have hcz5_0 := zc BK312 0 (v := .bool false) rfl; have hcz5_1 := zc BK312 1 (v := .slice none 0 0) rfl; have hcz5_2 := zc BK312 2 (v := .slice none 0 0) rfl; have hfz5_0 := zF BK312 0; have hfz5_1 := zF BK312 1; have hfz5_2 := zF BK312 2))
  refine bodyPost_ret (results_ct rfl _ _ gb312 25 #[.bool false, .slice none 0 0, .slice none 0 0] (0, 0) _ rfl (by (with_reducible repeat (first | refine blk_drewN ?_ _ | refine blk_drew ?_ | refine blk_alloc ?_ _)); refine blk_put (cs := #[.bool false, .slice none 0 0, .slice none 0 0]) ?_ 2 _ rfl; (with_reducible repeat (first | refine blk_drewN ?_ _ | refine blk_drew ?_ | refine blk_alloc ?_ _)); refine blk_put (cs := #[.bool false, .slice none 0 0, .slice none 0 0]) ?_ 1 _ rfl; (with_reducible repeat (first | refine blk_drewN ?_ _ | refine blk_drew ?_ | refine blk_alloc ?_ _)); refine blk_put (cs := #[.bool false, .slice none 0 0, .slice none 0 0]) ?_ 0 _ rfl; (with_reducible repeat (first | refine blk_drewN ?_ _ | refine blk_drew ?_ | refine blk_alloc ?_ _)); exact BK312.out) Tryd.underlying25 rfl zk) rfl ?_
  exact ⟨_, _, zE, by first | exact Kd.R_nil _ _ _ _ _ | exact Kd.N_nil _ _ _ _ _ | exact Kd.V_nil _ _ _ _ _ | exact Kd.Q_nil _ _ _ _ _ | exact Kd.S_nil _ _ _ _ _, by first | exact Kd.R_nil _ _ _ _ _ | exact Kd.N_nil _ _ _ _ _ | exact Kd.V_nil _ _ _ _ _ | exact Kd.Q_nil _ _ _ _ _ | exact Kd.S_nil _ _ _ _ _, zG1 GE312.out⟩
 rw [if_neg c3] at H
 have c3b0 := beq_eq_false_iff_ne.mpr c3
 have c3b1 := bne_iff_ne.mpr c3
 obtain ⟨t313, A60, H⟩ := zi H
 replace H : ((rational_magnitude.f a1).bind fun t316 => ((rational_reduce.f k ((decide (a0 < 0)) != (decide (a1 < 0))) t313 t316).bind fun bt319 => (some (bt319.1, bt319.2.1, bt319.2.2, 0)))) = some (r1, r2, r3, r4) := H
 have A6 := zA A60
 clear A60
 obtain ⟨t316, A70, H⟩ := zi H
 replace H : ((rational_reduce.f k ((decide (a0 < 0)) != (decide (a1 < 0))) t313 t316).bind fun bt319 => (some (bt319.1, bt319.2.1, bt319.2.2, 0))) = some (r1, r2, r3, r4) := H
 have A7 := zA A70
 clear A70
 obtain ⟨⟨t319, t320, t323⟩, A80, H⟩ := zi H
 replace H : (some (t319, t320, t323, 0)) = some (r1, r2, r3, r4) := H
 have A8 := zA A80
 clear A80
 simp only [Option.some.injEq, Prod.mk.injEq] at H
 obtain ⟨rfl, rfl, rfl, rfl⟩ := H
 go_enter Tryd.func11, Tryd.ntmps11
 go_wp2_with (first | ((with_reducible refine gate_dst (N := 4) rfl ?_); refine box_event ?hg (N := 4) ?hd (cs := #[.bool false, .slice none 0 0, .slice none 0 0]) (t := 25) ?hr ?_; (case hd => rfl); (case hg => rfl); (case hr => first | (go_simp; done) | (go_simp; rfl)); intro gb312 hg w9 hbox hb; have BK312 := zA (hbox); have GW312 := zA ((by rw [hg]; exact (below_size zH) : w.heap.size ≤ gb312)); have GE312 := zA ((by rw [hg]; exact (below_size zH) : w.heap.size ≤ gb312)); replace HB := zA (below_step zH hb); clear hb hbox hg) | ((with_reducible refine gate_callee (f := 47) rfl ?_); refine goesL_ (some 15) rfl rfl Tryd.func47 zk rfl #[.int .i64 a0] rfl (by (try simp only [List.map_toArray, List.map_cons, List.map_nil]); first | done | rfl | (simp only [List.length_drop, List.length_take]; rfl) | (go_simp; done) | (go_simp; rfl) | (go_simp; (try simp only [IntKind.wrap_u8, IntKind.wrap_u32, IntKind.wrap_u64]); omega)) ?_; (with_reducible refine (rational_magnitude.calls a0 t313 _ A6.out).mono ?_); rintro e w10 ⟨v314, rfl, ho0, hb⟩; refine ⟨_, rfl, ?_⟩; have HO315 := zA (Kd.R_lower ho0 (below_size (zG1 GE312.out))); replace BK312 := zA (blk_below (zB BK312.out) hb); replace HB := zA (below_step (zG1 GE312.out) hb); (try clear hb); (try clear hb2); (try clear hk); (try clear hi); (try clear ho0)) | ((with_reducible refine gate_callee (f := 47) rfl ?_); refine goesL_ (some 17) rfl rfl Tryd.func47 zk rfl #[.int .i64 a1] rfl (by (try simp only [List.map_toArray, List.map_cons, List.map_nil]); first | done | rfl | (simp only [List.length_drop, List.length_take]; rfl) | (go_simp; done) | (go_simp; rfl) | (go_simp; (try simp only [IntKind.wrap_u8, IntKind.wrap_u32, IntKind.wrap_u64]); omega)) ?_; (with_reducible refine (rational_magnitude.calls a1 t316 _ A7.out).mono ?_); rintro e w11 ⟨v317, rfl, ho0, hb⟩; refine ⟨_, rfl, ?_⟩; have HO318 := zA (Kd.R_lower (Kd.R_new' ho0 (Kd.R_lt (zR HO315.out))) (below_size (zG1 GE312.out))); replace HO315 := zA (Kd.R_elder' (zR HO315.out) (Kd.R_base ho0) hb); replace BK312 := zA (blk_below (zB BK312.out) hb); replace HB := zA (below_step (zG1 GE312.out) hb); (try clear hb); (try clear hb2); (try clear hk); (try clear hi); (try clear ho0); obtain ⟨Ao12, co12, eo12⟩ := Kd.R_slice HO315.out; subst eo12; obtain ⟨Ao13, co13, eo13⟩ := Kd.R_slice HO318.out; subst eo13) | ((with_reducible refine gate_callee (f := 46) rfl ?_); refine goesL_ (some 18) rfl rfl Tryd.func46 zk rfl #[.bool ((decide (a0 < 0)) != (decide (a1 < 0))), .slice Ao12 t313.length co12, .slice Ao13 t316.length co13] rfl (by (try simp only [List.map_toArray, List.map_cons, List.map_nil]); first | done | rfl | (simp only [List.length_drop, List.length_take]; rfl) | (go_simp; done) | (go_simp; rfl) | (go_simp; (try simp only [IntKind.wrap_u8, IntKind.wrap_u32, IntKind.wrap_u64]); omega)) ?_; (with_reducible refine (rational_reduce.calls k ((decide (a0 < 0)) != (decide (a1 < 0))) _ _ t313 _ _ t316 t319 t320 t323 _ ?side1 ?side2 ?side3 ?side4 A8.out).mono ?_); (case side1 => repeat (first | exact (Kd.R_reads' HO315.out).2.2 | (with_reducible refine Kd.C_alloc ?_ _) | (with_reducible refine Kd.C_drewN ?_ _) | (with_reducible refine Kd.C_drew ?_))); (case side2 => exact (Kd.R_reads' HO315.out).2.1); (case side3 => repeat (first | exact (Kd.R_reads' HO318.out).2.2 | (with_reducible refine Kd.C_alloc ?_ _) | (with_reducible refine Kd.C_drewN ?_ _) | (with_reducible refine Kd.C_drew ?_))); (case side4 => exact (Kd.R_reads' HO318.out).2.1); rintro e w14 ⟨v321, v324, rfl, ho0, ho1, hb⟩; refine ⟨_, rfl, ?_⟩; have HO322 := zA (Kd.R_lower (Kd.R_new' (Kd.R_new' ho0 (Kd.R_lt (zR HO315.out))) (Kd.R_lt (zR HO318.out))) (below_size (zG1 GE312.out))); have HO325 := zA (Kd.R_lower (Kd.R_new' (Kd.R_new' ho1 (Kd.R_lt (zR HO315.out))) (Kd.R_lt (zR HO318.out))) (below_size (zG1 GE312.out))); replace HO315 := zA (Kd.R_mono (Kd.R_told (Kd.R_told (Kd.R_old (zR HO315.out) hb) (Kd.R_base ho0)) (Kd.R_base ho1)) (fun _ h_ => h_.1)); replace HO318 := zA (Kd.R_mono (Kd.R_told (Kd.R_told (Kd.R_old (zR HO318.out) hb) (Kd.R_base ho0)) (Kd.R_base ho1)) (fun _ h_ => h_.1)); replace BK312 := zA (blk_below (zB BK312.out) hb); replace HB := zA (below_step (zG1 GE312.out) hb); (try clear hb); (try clear hb2); (try clear hk); (try clear hi); (try clear ho0); (try clear ho1); have hcz15_0 := zc BK312 0 (v := .bool false) rfl; have hcz15_1 := zc BK312 1 (v := .slice none 0 0) rfl; have hcz15_2 := zc BK312 2 (v := .slice none 0 0) rfl; have hfz15_0 := zF BK312 0; have hfz15_1 := zF BK312 1; have hfz15_2 := zF BK312 2; obtain ⟨Ao16, co16, eo16⟩ := Kd.R_slice HO322.out; subst eo16; obtain ⟨Ao17, co17, eo17⟩ := Kd.R_slice HO325.out; subst eo17))
 refine bodyPost_ret (results_ct rfl _ _ gb312 25 #[.bool t319, .slice Ao16 t320.length co16, .slice Ao17 t323.length co17] (0, 0) _ rfl (by (with_reducible repeat (first | refine blk_drewN ?_ _ | refine blk_drew ?_ | refine blk_alloc ?_ _)); refine blk_put (cs := #[.bool t319, .slice Ao16 t320.length co16, .slice none 0 0]) ?_ 2 _ rfl; (with_reducible repeat (first | refine blk_drewN ?_ _ | refine blk_drew ?_ | refine blk_alloc ?_ _)); refine blk_put (cs := #[.bool t319, .slice none 0 0, .slice none 0 0]) ?_ 1 _ rfl; (with_reducible repeat (first | refine blk_drewN ?_ _ | refine blk_drew ?_ | refine blk_alloc ?_ _)); refine blk_put (cs := #[.bool false, .slice none 0 0, .slice none 0 0]) ?_ 0 _ rfl; (with_reducible repeat (first | refine blk_drewN ?_ _ | refine blk_drew ?_ | refine blk_alloc ?_ _)); exact BK312.out) Tryd.underlying25 rfl zk) rfl ?_
 exact ⟨_, _, zE, zRM (Kd.R_far (p := ⟨gb312, 2, none⟩) (Kd.R_far (p := ⟨gb312, 1, none⟩) (Kd.R_far (p := ⟨gb312, 0, none⟩) (Kd.R_types HO322.out BK312.out (by decide)) (fun _ hk => hk.2) (.bool t319)) (fun _ hk => hk.2) (.slice Ao16 t320.length co16)) (fun _ hk => hk.2) (.slice Ao17 t323.length co17)) (fun _ hk => hk.1.1.1), zRM (Kd.R_far (p := ⟨gb312, 2, none⟩) (Kd.R_far (p := ⟨gb312, 1, none⟩) (Kd.R_far (p := ⟨gb312, 0, none⟩) (Kd.R_types HO325.out BK312.out (by decide)) (fun _ hk => hk.2) (.bool t319)) (fun _ hk => hk.2) (.slice Ao16 t320.length co16)) (fun _ hk => hk.2) (.slice Ao17 t323.length co17)) (fun _ hk => hk.1.1.1), zG1 GE312.out⟩

def stringslite_HasPrefix.f (a0 : ByteArray) (a1 : ByteArray) : Option (Bool) := if (a0.size : Int) ≥ (a1.size : Int) then (if 0 ≤ (a1.size : Int) then (if (a1.size : Int) ≤ (a0.size : Int) then (some ((a0.extract 0 ((a1.size : Int) : Int).toNat).toList == a1.toList)) else (none)) else (none)) else (some false)
set_option maxHeartbeats 8000000 in
set_option maxRecDepth 100000 in
theorem stringslite_HasPrefix.calls (a0 : ByteArray) (a1 : ByteArray) (r : Bool) (w : World) (h : stringslite_HasPrefix.f a0 a1 = some r) :
 Calls Tryd.prog 94 #[.string a0, .string a1] w fun e w' => e = .returned (.bool r) ∧ Drawn0 w w' := by
 have H : (if (a0.size : Int) ≥ (a1.size : Int) then (if 0 ≤ (a1.size : Int) then (if (a1.size : Int) ≤ (a0.size : Int) then (some ((a0.extract 0 ((a1.size : Int) : Int).toNat).toList == a1.toList)) else (none)) else (none)) else (some false)) = some r := h
 clear h
 by_cases c3 : (a0.size : Int) ≥ (a1.size : Int)
 ·
  rw [if_pos c3] at H
  have c3b0 : decide ((a1.size : Int) ≤ (a0.size : Int)) = true := decide_eq_true c3
  have c3b1 : decide (a1.size ≤ a0.size) = true := decide_eq_true (Int.ofNat_le.mp c3)
  clear c3
  by_cases c4 : 0 ≤ (a1.size : Int)
  ·
   rw [if_pos c4] at H
   have c4b0 := eq_true c4
   have c4b1 := decide_eq_true c4
   clear c4
   by_cases c5 : (a1.size : Int) ≤ (a0.size : Int)
   ·
    rw [if_pos c5] at H
    have c5b0 := eq_true c5
    have c5b1 := decide_eq_true c5
    clear c5
    obtain rfl := Option.some.inj H
    go_enter Tryd.func94, Tryd.ntmps94
    go_wp2
    go_ret
    exact ⟨zS, zW⟩
   rw [if_neg c5] at H
   cases H
  rw [if_neg c4] at H
  cases H
 rw [if_neg c3] at H
 have c3b0 : decide ((a1.size : Int) ≤ (a0.size : Int)) = false := decide_eq_false c3
 have c3b1 : decide (a1.size ≤ a0.size) = false := decide_eq_false (fun h => c3 (Int.ofNat_le.mpr h))
 clear c3
 obtain rfl := Option.some.inj H
 go_enter Tryd.func94, Tryd.ntmps94
 go_wp2
 go_ret
 exact ⟨zS, zW⟩

def stringslite_CutPrefix.f (a0 : ByteArray) (a1 : ByteArray) : Option (ByteArray × Bool) := (stringslite_HasPrefix.f a0 a1).bind fun t326 => (if t326 = true then (if 0 ≤ (a1.size : Int) then (if (a1.size : Int) ≤ (a0.size : Int) then (some (a0.extract ((a1.size : Int) : Int).toNat a0.size, true)) else (none)) else (none)) else (some (a0, false)))
set_option maxHeartbeats 8000000 in
set_option maxRecDepth 100000 in
theorem stringslite_CutPrefix.calls (a0 : ByteArray) (a1 : ByteArray) (r1 : ByteArray) (r2 : Bool) (w : World) (h : stringslite_CutPrefix.f a0 a1 = some (r1, r2)) :
 Calls Tryd.prog 82 #[.string a0, .string a1] w fun e w' => e = .returned (.tuple #[.string r1, .bool r2]) ∧ Drawn0 w w' := by
 have H : ((stringslite_HasPrefix.f a0 a1).bind fun t326 => (if t326 = true then (if 0 ≤ (a1.size : Int) then (if (a1.size : Int) ≤ (a0.size : Int) then (some (a0.extract ((a1.size : Int) : Int).toNat a0.size, true)) else (none)) else (none)) else (some (a0, false)))) = some (r1, r2) := h
 clear h
 obtain ⟨t326, A30, H⟩ := zi H
 replace H : (if t326 = true then (if 0 ≤ (a1.size : Int) then (if (a1.size : Int) ≤ (a0.size : Int) then (some (a0.extract ((a1.size : Int) : Int).toNat a0.size, true)) else (none)) else (none)) else (some (a0, false))) = some (r1, r2) := H
 have A3 := zA A30
 clear A30
 by_cases c4 : t326 = true
 ·
  subst c4
  have H1 : (if 0 ≤ (a1.size : Int) then (if (a1.size : Int) ≤ (a0.size : Int) then (some (a0.extract ((a1.size : Int) : Int).toNat a0.size, true)) else (none)) else (none)) = some (r1, r2) := by rw [if_pos rfl] at H; exact H
  clear H
  have H := H1
  clear H1
  by_cases c5 : 0 ≤ (a1.size : Int)
  ·
   rw [if_pos c5] at H
   have c5b0 := eq_true c5
   have c5b1 := decide_eq_true c5
   clear c5
   by_cases c6 : (a1.size : Int) ≤ (a0.size : Int)
   ·
    rw [if_pos c6] at H
    have c6b0 := eq_true c6
    have c6b1 := decide_eq_true c6
    clear c6
    simp only [Option.some.injEq, Prod.mk.injEq] at H
    obtain ⟨rfl, rfl⟩ := H
    go_enter Tryd.func82, Tryd.ntmps82
    go_wp2_with (first | ((with_reducible refine gate_callee (f := 94) rfl ?_); refine goesL_ (some 8) rfl rfl Tryd.func94 zk rfl #[.string a0, .string a1] rfl zX ?_; (with_reducible refine (stringslite_HasPrefix.calls a0 a1 true _ A3.out).mono ?_); rintro e w' ⟨rfl, ⟨nd, rfl⟩⟩; refine ⟨_, rfl, ?_⟩))
    go_ret2
    exact ⟨zS, zW⟩
   rw [if_neg c6] at H
   cases H
  rw [if_neg c5] at H
  cases H
 replace c4 := Bool.eq_false_iff.mpr c4
 subst c4
 have H1 : (some (a0, false)) = some (r1, r2) := by rw [if_neg (show ¬ (false = true) by decide)] at H; exact H
 clear H
 have H := H1
 clear H1
 simp only [Option.some.injEq, Prod.mk.injEq] at H
 obtain ⟨rfl, rfl⟩ := H
 go_enter Tryd.func82, Tryd.ntmps82
 go_wp2_with (first | ((with_reducible refine gate_callee (f := 94) rfl ?_); refine goesL_ (some 8) rfl rfl Tryd.func94 zk rfl #[.string a0, .string a1] rfl zX ?_; (with_reducible refine (stringslite_HasPrefix.calls a0 a1 false _ A3.out).mono ?_); rintro e w' ⟨rfl, ⟨nd, rfl⟩⟩; refine ⟨_, rfl, ?_⟩))
 go_ret2
 exact ⟨zS, zW⟩

def strings_CutPrefix.f (a0 : ByteArray) (a1 : ByteArray) : Option (ByteArray × Bool) := (stringslite_CutPrefix.f a0 a1).bind fun bt327 => (some (bt327.1, bt327.2))
set_option maxHeartbeats 8000000 in
set_option maxRecDepth 100000 in
theorem strings_CutPrefix.calls (a0 : ByteArray) (a1 : ByteArray) (r1 : ByteArray) (r2 : Bool) (w : World) (h : strings_CutPrefix.f a0 a1 = some (r1, r2)) :
 Calls Tryd.prog 52 #[.string a0, .string a1] w fun e w' => e = .returned (.tuple #[.string r1, .bool r2]) ∧ Drawn0 w w' := by
 have H : ((stringslite_CutPrefix.f a0 a1).bind fun bt327 => (some (bt327.1, bt327.2))) = some (r1, r2) := h
 clear h
 obtain ⟨⟨t327, t328⟩, A30, H⟩ := zi H
 replace H : (some (t327, t328)) = some (r1, r2) := H
 have A3 := zA A30
 clear A30
 simp only [Option.some.injEq, Prod.mk.injEq] at H
 obtain ⟨rfl, rfl⟩ := H
 go_enter Tryd.func52, Tryd.ntmps52
 go_wp2_with (first | ((with_reducible refine gate_callee (f := 82) rfl ?_); refine goesL_ (some 8) rfl rfl Tryd.func82 zk rfl #[.string a0, .string a1] rfl zX ?_; (with_reducible refine (stringslite_CutPrefix.calls a0 a1 t327 t328 _ A3.out).mono ?_); rintro e w' ⟨rfl, ⟨nd, rfl⟩⟩; refine ⟨_, rfl, ?_⟩))
 go_ret2
 exact ⟨zS, zW⟩

end Go.Proofs.YtoeldfopjalpkaaDoor.Q

