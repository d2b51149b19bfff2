/- Lemmas for the proof of one law of this seat (Qx12). -/
import Derived.Test.YtoeldfopjalpkaaDoorZRationalCanonicalQx0
import Derived.Test.YtoeldfopjalpkaaDoorZRationalCanonicalQx1
import Derived.Test.YtoeldfopjalpkaaDoorZRationalCanonicalQx2
import Derived.Test.YtoeldfopjalpkaaDoorZRationalCanonicalQx6
import Derived.Test.YtoeldfopjalpkaaDoorZRationalCanonicalQx10
import Derived.Test.YtoeldfopjalpkaaDoorZRationalCanonicalQx11
import Derived.Test.YtoeldfopjalpkaaDoorZRationalCanonicalZip
namespace Go.Proofs.YtoeldfopjalpkaaDoor.Q
open Go.RowKit Go.Proofs.YtoeldfopjalpkaaDoorW.PrintWords Go.Proofs.YtoeldfopjalpkaaDoorW.PrintLast Go.Proofs.YtoeldfopjalpkaaDoorW.PrintMore
attribute [local go_sem] max2_int min2_int max_two min_two max_three min_three max_four min_four   -- for this text's walks alone
set_option linter.unusedVariables false
set_option linter.unusedSimpArgs false

def rational_Format.f (k : Nat) (a0_0 : Bool) (l0_1 : List Int) (l0_2 : List Int) : Option (ByteArray) := (rational_Normalize.f k a0_0 l0_1 l0_2).bind fun bt432 => ((bignat_Format.f k bt432.2.1).bind fun t439 => (if bt432.1 = true then (if 1 + t439.size ≤ 9223372036854775807 then (if (bt432.2.2.length : Int) > 1 then (none) else (if 0 < (bt432.2.2.length : Int) then (if (rd bt432.2.2 0) = 1 then (none) else ((bignat_Format.f k bt432.2.2).bind fun t441 => (if 1 + t441.size ≤ 9223372036854775807 then (if ((⟨#[45]⟩ : ByteArray) ++ t439).size + ((⟨#[47]⟩ : ByteArray) ++ t441).size ≤ 9223372036854775807 then (some (((⟨#[45]⟩ : ByteArray) ++ t439) ++ ((⟨#[47]⟩ : ByteArray) ++ t441))) else (none)) else (none)))) else (none))) else (none)) else (none)))
theorem rational_Format.mono : ∀ a0 a1 a2 k, LeO (rational_Format.f k a0 a1 a2) (rational_Format.f (k + 1) a0 a1 a2) := by
 intro a0 a1 a2 k
 unfold rational_Format.f
 exact zm2 bignat_Format.mono rational_Normalize.mono
set_option maxHeartbeats 8000000 in
set_option maxRecDepth 100000 in
theorem rational_Format.calls (k : Nat) (a0_0 : Bool) (A0_1 : Option Addr) (c0_1 : Nat) (l0_1 : List Int) (A0_2 : Option Addr) (c0_2 : Nat) (l0_2 : List Int) (r : ByteArray) (w : World) (hr0_1 : Kd.C (Kd.int .u32) w A0_1 l0_1.length l0_1) (hc0_1 : l0_1.length ≤ c0_1) (hr0_2 : Kd.C (Kd.int .u32) w A0_2 l0_2.length l0_2) (hc0_2 : l0_2.length ≤ c0_2) (h : rational_Format.f k a0_0 l0_1 l0_2 = some r) :
 Calls Tryd.prog 18 #[.agg #[.bool a0_0, .slice A0_1 l0_1.length c0_1, .slice A0_2 l0_2.length c0_2]] w fun e w' => e = .returned (.string r) ∧ Below w.heap.size w w' := by
 have hu25 := Tryd.underlying25
 have HR0_1 := zA hr0_1
 have HC0_1 := zA hc0_1
 clear hr0_1 hc0_1
 have HR0_2 := zA hr0_2
 have HC0_2 := zA hc0_2
 clear hr0_2 hc0_2
 have HB := zA (Below.refl w.heap.size w)
 have H : ((rational_Normalize.f k a0_0 l0_1 l0_2).bind fun bt432 => ((bignat_Format.f k bt432.2.1).bind fun t439 => (if bt432.1 = true then (if 1 + t439.size ≤ 9223372036854775807 then (if (bt432.2.2.length : Int) > 1 then (none) else (if 0 < (bt432.2.2.length : Int) then (if (rd bt432.2.2 0) = 1 then (none) else ((bignat_Format.f k bt432.2.2).bind fun t441 => (if 1 + t441.size ≤ 9223372036854775807 then (if ((⟨#[45]⟩ : ByteArray) ++ t439).size + ((⟨#[47]⟩ : ByteArray) ++ t441).size ≤ 9223372036854775807 then (some (((⟨#[45]⟩ : ByteArray) ++ t439) ++ ((⟨#[47]⟩ : ByteArray) ++ t441))) else (none)) else (none)))) else (none))) else (none)) else (none)))) = some r := h
 clear h
 obtain ⟨⟨t432, t433, t436⟩, A20, H⟩ := zi H
 replace H : ((bignat_Format.f k t433).bind fun t439 => (if t432 = true then (if 1 + t439.size ≤ 9223372036854775807 then (if (t436.length : Int) > 1 then (none) else (if 0 < (t436.length : Int) then (if (rd t436 0) = 1 then (none) else ((bignat_Format.f k t436).bind fun t441 => (if 1 + t441.size ≤ 9223372036854775807 then (if ((⟨#[45]⟩ : ByteArray) ++ t439).size + ((⟨#[47]⟩ : ByteArray) ++ t441).size ≤ 9223372036854775807 then (some (((⟨#[45]⟩ : ByteArray) ++ t439) ++ ((⟨#[47]⟩ : ByteArray) ++ t441))) else (none)) else (none)))) else (none))) else (none)) else (none))) = some r := H
 have A2 := zA A20
 clear A20
 obtain ⟨t439, A30, H⟩ := zi H
 replace H : (if t432 = true then (if 1 + t439.size ≤ 9223372036854775807 then (if (t436.length : Int) > 1 then (none) else (if 0 < (t436.length : Int) then (if (rd t436 0) = 1 then (none) else ((bignat_Format.f k t436).bind fun t441 => (if 1 + t441.size ≤ 9223372036854775807 then (if ((⟨#[45]⟩ : ByteArray) ++ t439).size + ((⟨#[47]⟩ : ByteArray) ++ t441).size ≤ 9223372036854775807 then (some (((⟨#[45]⟩ : ByteArray) ++ t439) ++ ((⟨#[47]⟩ : ByteArray) ++ t441))) else (none)) else (none)))) else (none))) else (none)) else (none)) = some r := H
 have A3 := zA A30
 clear A30
 by_cases c4 : t432 = true
 ·
  subst c4
  have H1 : (if 1 + t439.size ≤ 9223372036854775807 then (if (t436.length : Int) > 1 then (none) else (if 0 < (t436.length : Int) then (if (rd t436 0) = 1 then (none) else ((bignat_Format.f k t436).bind fun t441 => (if 1 + t441.size ≤ 9223372036854775807 then (if ((⟨#[45]⟩ : ByteArray) ++ t439).size + ((⟨#[47]⟩ : ByteArray) ++ t441).size ≤ 9223372036854775807 then (some (((⟨#[45]⟩ : ByteArray) ++ t439) ++ ((⟨#[47]⟩ : ByteArray) ++ t441))) else (none)) else (none)))) else (none))) else (none)) = some r := by rw [if_pos rfl] at H; exact H
  clear H
  have H := H1
  clear H1
  by_cases c5 : 1 + t439.size ≤ 9223372036854775807
  ·
   rw [if_pos c5] at H
   have c5b0 := eq_true c5
   have c5b1 := decide_eq_true c5
   try have c5b2 : (9223372036854775807 < 1 + t439.size) = False := eq_false (Nat.not_lt.2 c5)
   by_cases c6 : (t436.length : Int) > 1
   ·
    rw [if_pos c6] at H
    cases H
   rw [if_neg c6] at H
   have c6b0 : decide (1 < (t436.length : Int)) = false := decide_eq_false c6
   have c6b1 : decide (1 < t436.length) = false := decide_eq_false (by omega)
   clear c6
   by_cases c7 : 0 < (t436.length : Int)
   ·
    rw [if_pos c7] at H
    have c7b0 := decide_eq_true c7
    have c7b1 : decide (0 < t436.length) = true := decide_eq_true (by omega)
    clear c7
    by_cases c8 : (rd t436 0) = 1
    ·
     rw [if_pos c8] at H
     cases H
    rw [if_neg c8] at H
    have c8b0 := beq_eq_false_iff_ne.mpr c8
    have c8b1 := bne_iff_ne.mpr c8
    obtain ⟨t441, A90, H⟩ := zi H
    replace H : (if 1 + t441.size ≤ 9223372036854775807 then (if ((⟨#[45]⟩ : ByteArray) ++ t439).size + ((⟨#[47]⟩ : ByteArray) ++ t441).size ≤ 9223372036854775807 then (some (((⟨#[45]⟩ : ByteArray) ++ t439) ++ ((⟨#[47]⟩ : ByteArray) ++ t441))) else (none)) else (none)) = some r := H
    have A9 := zA A90
    clear A90
    by_cases c10 : 1 + t441.size ≤ 9223372036854775807
    ·
     rw [if_pos c10] at H
     have c10b0 := eq_true c10
     have c10b1 := decide_eq_true c10
     try have c10b2 : (9223372036854775807 < 1 + t441.size) = False := eq_false (Nat.not_lt.2 c10)
     by_cases c11 : ((⟨#[45]⟩ : ByteArray) ++ t439).size + ((⟨#[47]⟩ : ByteArray) ++ t441).size ≤ 9223372036854775807
     ·
      rw [if_pos c11] at H
      have c11b0 := eq_true c11
      have c11b1 := decide_eq_true c11
      try have c11b2 : (9223372036854775807 < ((⟨#[45]⟩ : ByteArray) ++ t439).size + ((⟨#[47]⟩ : ByteArray) ++ t441).size) = False := eq_false (Nat.not_lt.2 c11)
      obtain rfl := Option.some.inj H
      go_enter Tryd.func18, Tryd.ntmps18
      go_wp2_with (first | ((with_reducible refine gate_dst (N := 1) rfl ?_); refine box_event ?hg (N := 1) ?hd (cs := #[.bool a0_0, .slice A0_1 l0_1.length c0_1, .slice A0_2 l0_2.length c0_2]) (t := 25) ?hr ?_; (case hd => rfl); (case hg => rfl); (case hr => first | (go_simp; done) | (go_simp; rfl)); intro gb431 hg w12 hbox hb; have BK431 := zA (hbox); have GW431 := zA ((by rw [hg]; exact (below_size (zb HB rfl)) : w.heap.size ≤ gb431)); have GE431 := zA ((by rw [hg]; exact (below_size (zb HB rfl)) : w.heap.size ≤ gb431)); replace HB := zbb HB hb rfl; clear hb hbox hg; have hcz13_0 := zc BK431 0 (v := .bool a0_0) rfl; have hcz13_1 := zc BK431 1 (v := .slice A0_1 l0_1.length c0_1) rfl; have hcz13_2 := zc BK431 2 (v := .slice A0_2 l0_2.length c0_2) rfl; have hfz13_0 := zF BK431 0; have hfz13_1 := zF BK431 1; have hfz13_2 := zF BK431 2) | ((with_reducible refine gate_callee (f := 20) rfl ?_); refine goesL_ (some 5) rfl rfl Tryd.func20 zk rfl #[.agg #[.bool a0_0, .slice A0_1 l0_1.length c0_1, .slice A0_2 l0_2.length c0_2]] rfl zX ?_; (with_reducible refine (rational_Normalize.calls k a0_0 _ _ l0_1 _ _ l0_2 true t433 t436 _ ?side1 ?side2 ?side3 ?side4 A2.out).mono ?_); (case side1 => exact zC (Kd.C_below HR0_1.out HB.out)); (case side2 => exact HC0_1.out); (case side3 => exact zC (Kd.C_below HR0_2.out HB.out)); (case side4 => exact HC0_2.out); rintro e w14 ⟨v434, v437, rfl, ho0, ho1, hb⟩; refine ⟨_, rfl, ?_⟩; have HO435 := zA (Kd.R_lower ho0 (below_size (zb HB rfl))); have HO438 := zA (Kd.R_lower ho1 (below_size (zb HB rfl))); replace BK431 := zkb BK431 hb; replace HB := zbb HB hb rfl; have hcz15_0 := zc BK431 0 (v := .bool a0_0) rfl; have hcz15_1 := zc BK431 1 (v := .slice A0_1 l0_1.length c0_1) rfl; have hcz15_2 := zc BK431 2 (v := .slice A0_2 l0_2.length c0_2) rfl; have hfz15_0 := zF BK431 0; have hfz15_1 := zF BK431 1; have hfz15_2 := zF BK431 2; obtain ⟨Ao16, co16, eo16⟩ := Kd.R_slice HO435.out; subst eo16; obtain ⟨Ao17, co17, eo17⟩ := Kd.R_slice HO438.out; subst eo17) | ((with_reducible refine gate_callee (f := 21) rfl ?_); refine goesL_ (some 8) rfl rfl Tryd.func21 zk rfl #[.slice Ao16 t433.length co16] rfl zX ?_; (with_reducible refine (bignat_Format.calls k _ _ t433 t439 _ ?side1 ?side2 A3.out).mono ?_); (case side1 => refine (Kd.R_reads' (e := 37) (base := w.heap.size) (ok := fun k_ => some k_ ≠ (.slice Ao17 t436.length co17 : Value).ownBlock) (n := t433.length) (c := co16) ?_).2.2; exact (zR ((Kd.R_mono (Kd.R_far (p := ⟨gb431, 2, none⟩) (Kd.R_far (p := ⟨gb431, 1, none⟩) (Kd.R_far (p := ⟨gb431, 0, none⟩) (Kd.R_types HO435.out BK431.out (by decide)) (fun _ hk => hk.2) (.bool true)) (fun _ hk => hk.2) (.slice Ao16 t433.length co16)) (fun _ hk => hk.2) (.slice Ao17 t436.length co17)) (fun _ h_ => h_.1))))); (case side2 => exact (Kd.R_reads' HO435.out).2.1); rintro e w18 ⟨rfl, hb⟩; refine ⟨_, rfl, ?_⟩; replace HO435 := zA (Kd.R_below (zR ((Kd.R_mono (Kd.R_far (p := ⟨gb431, 2, none⟩) (Kd.R_far (p := ⟨gb431, 1, none⟩) (Kd.R_far (p := ⟨gb431, 0, none⟩) (Kd.R_types HO435.out BK431.out (by decide)) (fun _ hk => hk.2) (.bool true)) (fun _ hk => hk.2) (.slice Ao16 t433.length co16)) (fun _ hk => hk.2) (.slice Ao17 t436.length co17)) (fun _ h_ => h_.1)))) hb); replace HO438 := zA (Kd.R_below (zR ((Kd.R_mono (Kd.R_far (p := ⟨gb431, 2, none⟩) (Kd.R_far (p := ⟨gb431, 1, none⟩) (Kd.R_far (p := ⟨gb431, 0, none⟩) (Kd.R_types HO438.out BK431.out (by decide)) (fun _ hk => hk.2) (.bool true)) (fun _ hk => hk.2) (.slice Ao16 t433.length co16)) (fun _ hk => hk.2) (.slice Ao17 t436.length co17)) (fun _ h_ => h_.1)))) hb); replace BK431 := zA (blk_below (g := gb431) (o := .cells #[.bool true, .slice Ao16 t433.length co16, .slice Ao17 t436.length co17] 25 (0, 0)) (by (with_reducible repeat (first | refine blk_drewN ?_ _ | refine blk_drew ?_ | refine blk_alloc ?_ _)); refine blk_put (cs := #[.bool true, .slice Ao16 t433.length co16, .slice A0_2 l0_2.length c0_2]) ?_ 2 _ rfl; (with_reducible repeat (first | refine blk_drewN ?_ _ | refine blk_drew ?_ | refine blk_alloc ?_ _)); refine blk_put (cs := #[.bool true, .slice A0_1 l0_1.length c0_1, .slice A0_2 l0_2.length c0_2]) ?_ 1 _ rfl; (with_reducible repeat (first | refine blk_drewN ?_ _ | refine blk_drew ?_ | refine blk_alloc ?_ _)); refine blk_put (cs := #[.bool a0_0, .slice A0_1 l0_1.length c0_1, .slice A0_2 l0_2.length c0_2]) ?_ 0 _ rfl; (with_reducible repeat (first | refine blk_drewN ?_ _ | refine blk_drew ?_ | refine blk_alloc ?_ _)); exact BK431.out) hb); replace HB := zA (below_step (zG1 GE431.out) hb); have hcz19_0 := zc BK431 0 (v := .bool true) rfl; have hcz19_1 := zc BK431 1 (v := .slice Ao16 t433.length co16) rfl; have hcz19_2 := zc BK431 2 (v := .slice Ao17 t436.length co17) rfl; have hfz19_0 := zF BK431 0; have hfz19_1 := zF BK431 1; have hfz19_2 := zF BK431 2; have p440 : 0 ≤ (0 : Int) := (by omega); have q440 : 0 < (t436.length : Int) := zD; obtain ⟨ad440, e440, hx440_0⟩ := Kd.at_int (Kd.R_reads' HO438.out).2.2 0 p440 q440; cases e440; have qi440 : (0 < t436.length) = True := eq_true (by omega); (try rw [show ((0 : Int)).toNat = 0 from rfl] at hx440_0); (try rw [Addr.add_zero'] at hx440_0); replace p440 := eq_true p440; replace q440 := eq_true q440) | ((with_reducible refine gate_callee (f := 21) rfl ?_); refine goesL_ (some 27) rfl rfl Tryd.func21 zk rfl #[.slice (some ad440) t436.length co17] rfl zX ?_; (with_reducible refine (bignat_Format.calls k _ _ t436 t441 _ ?side1 ?side2 A9.out).mono ?_); (case side1 => exact zC (Kd.R_reads' HO438.out).2.2); (case side2 => exact (Kd.R_reads' HO438.out).2.1); rintro e w20 ⟨rfl, hb⟩; refine ⟨_, rfl, ?_⟩; replace HO435 := zrb HO435 hb rfl; replace HO438 := zrb HO438 hb rfl; replace BK431 := zkb BK431 hb; replace HB := zbb HB hb rfl))
      go_ret
      exact ⟨zE, zG1 GE431.out⟩
     rw [if_neg c11] at H
     cases H
    rw [if_neg c10] at H
    cases H
   rw [if_neg c7] at H
   cases H
  rw [if_neg c5] at H
  cases H
 replace c4 := Bool.eq_false_iff.mpr c4
 subst c4
 have H1 : (none) = some r := by rw [if_neg (show ¬ (false = true) by decide)] at H; exact H
 clear H
 have H := H1
 clear H1
 cases H

def rational_parts.f (k : Nat) (a0_0 : Bool) (l0_1 : List Int) (l0_2 : List Int) : Option (Bool × List Int × List Int) := (bignat_BitLen.f k l0_2).bind fun t443 => (if t443 = 0 then ((rational_one.f).bind fun t444 => (some (false, ([] : List Int), t444))) else ((bignat_BitLen.f k l0_1).bind fun t447 => (if t447 = 0 then ((rational_one.f).bind fun t448 => (some (false, ([] : List Int), t448))) else (some (a0_0, l0_1, l0_2)))))
theorem rational_parts.mono : ∀ a0 a1 a2 k, LeO (rational_parts.f k a0 a1 a2) (rational_parts.f (k + 1) a0 a1 a2) := by
 intro a0 a1 a2 k
 unfold rational_parts.f
 exact zm1 bignat_BitLen.mono
set_option maxHeartbeats 8000000 in
set_option maxRecDepth 100000 in
theorem rational_parts.calls (k : Nat) (a0_0 : Bool) (P0_1_ : Nat → Prop) (A0_1 : Option Addr) (c0_1 : Nat) (l0_1 : List Int) (P0_2_ : Nat → Prop) (A0_2 : Option Addr) (c0_2 : Nat) (l0_2 : List Int) (r1 : Bool) (r2 : List Int) (r3 : List Int) (w : World) (hs0_1 : Kd.V (Kd.int .u32) 37 w w.heap.size (fun k_ => P0_1_ k_) (.slice A0_1 l0_1.length c0_1) l0_1) (hs0_2 : Kd.V (Kd.int .u32) 37 w w.heap.size (fun k_ => P0_2_ k_) (.slice A0_2 l0_2.length c0_2) l0_2) (h : rational_parts.f k a0_0 l0_1 l0_2 = some (r1, r2, r3)) :
 Calls Tryd.prog 66 #[.agg #[.bool a0_0, .slice A0_1 l0_1.length c0_1, .slice A0_2 l0_2.length c0_2]] w fun e w' => ∃ v1_ v2_ : Value, e = .returned (.tuple #[.bool r1, v1_, v2_]) ∧ Kd.V (Kd.int .u32) 37 w' w.heap.size (fun k_ => ((P0_1_ k_ ∨ P0_2_ k_) ∨ w.heap.size ≤ k_)) v1_ r2 ∧ Kd.V (Kd.int .u32) 37 w' w.heap.size (fun k_ => ((P0_1_ k_ ∨ P0_2_ k_) ∨ w.heap.size ≤ k_)) v2_ r3 ∧ Below w.heap.size w w' := by
 have hu25 := Tryd.underlying25
 have HO0_1 := zA (show Kd.V (Kd.int .u32) 37 w w.heap.size (fun k_ => ((P0_1_ k_ ∨ P0_2_ k_) ∨ w.heap.size ≤ k_)) (.slice A0_1 l0_1.length c0_1) l0_1 from Kd.V_mono hs0_1 (fun k_ hk => .inl (.inl hk)))
 have HO0_2 := zA (show Kd.V (Kd.int .u32) 37 w w.heap.size (fun k_ => ((P0_1_ k_ ∨ P0_2_ k_) ∨ w.heap.size ≤ k_)) (.slice A0_2 l0_2.length c0_2) l0_2 from Kd.V_mono hs0_2 (fun k_ hk => .inl (.inr hk)))
 have HB := zA (Below.refl w.heap.size w)
 have H : ((bignat_BitLen.f k l0_2).bind fun t443 => (if t443 = 0 then ((rational_one.f).bind fun t444 => (some (false, ([] : List Int), t444))) else ((bignat_BitLen.f k l0_1).bind fun t447 => (if t447 = 0 then ((rational_one.f).bind fun t448 => (some (false, ([] : List Int), t448))) else (some (a0_0, l0_1, l0_2)))))) = some (r1, r2, r3) := h
 clear h
 obtain ⟨t443, A20, H⟩ := zi H
 replace H : (if t443 = 0 then ((rational_one.f).bind fun t444 => (some (false, ([] : List Int), t444))) else ((bignat_BitLen.f k l0_1).bind fun t447 => (if t447 = 0 then ((rational_one.f).bind fun t448 => (some (false, ([] : List Int), t448))) else (some (a0_0, l0_1, l0_2))))) = some (r1, r2, r3) := H
 have A2 := zA A20
 clear A20
 by_cases c3 : t443 = 0
 ·
  rw [if_pos c3] at H
  have c3b0 := beq_iff_eq.mpr c3
  have c3b1 := bne_eq_false_iff_eq.mpr c3
  clear c3
  obtain ⟨t444, A40, H⟩ := zi H
  replace H : (some (false, ([] : List Int), t444)) = some (r1, r2, r3) := H
  have A4 := zA A40
  clear A40
  simp only [Option.some.injEq, Prod.mk.injEq] at H
  obtain ⟨rfl, rfl, rfl⟩ := H
  go_enter Tryd.func66, Tryd.ntmps66
  go_wp2_with (first | ((with_reducible refine gate_dst (N := 1) rfl ?_); refine box_event ?hg (N := 1) ?hd (cs := #[.bool a0_0, .slice A0_1 l0_1.length c0_1, .slice A0_2 l0_2.length c0_2]) (t := 25) ?hr ?_; (case hd => rfl); (case hg => rfl); (case hr => first | (go_simp; done) | (go_simp; rfl)); intro gb442 hg w5 hbox hb; replace HO0_1 := zA (Kd.V_below (Kd.V_elderB (zv HO0_1 rfl) gb442 (Nat.le_of_eq hg.symm)) hb); replace HO0_2 := zA (Kd.V_below (Kd.V_elderB (zv HO0_2 rfl) gb442 (Nat.le_of_eq hg.symm)) hb); have BK442 := zA (hbox); have GW442 := zA ((by rw [hg]; exact (below_size (zb HB rfl)) : w.heap.size ≤ gb442)); have GE442 := zA ((by rw [hg]; exact (below_size (zb HB rfl)) : w.heap.size ≤ gb442)); replace HB := zbb HB hb rfl; clear hb hbox hg; have hcz6_0 := zc BK442 0 (v := .bool a0_0) rfl; have hcz6_1 := zc BK442 1 (v := .slice A0_1 l0_1.length c0_1) rfl; have hcz6_2 := zc BK442 2 (v := .slice A0_2 l0_2.length c0_2) rfl; have hfz6_0 := zF BK442 0; have hfz6_1 := zF BK442 1; have hfz6_2 := zF BK442 2) | (go_at_call 70; (with_reducible refine (bignat_BitLen.calls k _ _ l0_2 t443 _ ?side1 ?side2 A2.out).mono ?_); (case side1 => exact zC (Kd.V_reads' HO0_2.out).2.2); (case side2 => exact (Kd.V_reads' HO0_2.out).2.1); rintro e w7 ⟨rfl, hb⟩; replace HO0_1 := zA (Kd.V_below (zv HO0_1 rfl) hb); replace HO0_2 := zA (Kd.V_below (zv HO0_2 rfl) hb); replace BK442 := zkb BK442 hb; replace HB := zbb HB hb rfl) | (go_at_call 56; (with_reducible refine (rational_one.calls  t444 _ A4.out).mono ?_); rintro e w8 ⟨v445, rfl, ho0, hb⟩; replace HO0_1 := zA (Kd.V_elder' (zv HO0_1 rfl) (Kd.R_base ho0) hb); replace HO0_2 := zA (Kd.V_elder' (zv HO0_2 rfl) (Kd.R_base ho0) hb); have HO446 := zA (Kd.R_lower (Kd.R_newM (M := fun k_ => (w.heap.size ≤ k_)) ho0 (below_size (zb HB rfl)) (fun k_ h_ => h_)) (below_size (zb HB rfl))); replace BK442 := zkb BK442 hb; replace HB := zbb HB hb rfl))
  repeat (go_quiet (first | ((with_reducible refine gate_dst (N := 1) rfl ?_); refine box_event ?hg (N := 1) ?hd (cs := #[.bool a0_0, .slice A0_1 l0_1.length c0_1, .slice A0_2 l0_2.length c0_2]) (t := 25) ?hr ?_; (case hd => rfl); (case hg => rfl); (case hr => first | (go_simp; done) | (go_simp; rfl)); intro gb442 hg w5 hbox hb; have n0_ := zA (Kd.V_below (Kd.V_elderB (zv HO0_1 rfl) gb442 (Nat.le_of_eq hg.symm)) hb); have n1_ := zA (Kd.V_below (Kd.V_elderB (zv HO0_2 rfl) gb442 (Nat.le_of_eq hg.symm)) hb); have n2_ := zbb HB hb rfl; have n3_ := zA (hbox); have n4_ := zA ((by rw [hg]; exact (below_size (zb HB rfl)) : w.heap.size ≤ gb442)); have n5_ := zA ((by rw [hg]; exact (below_size (zb HB rfl)) : w.heap.size ≤ gb442)); clear HO0_1; clear HO0_2; clear HB; have HO0_1 := n0_; have HO0_2 := n1_; have HB := n2_; have BK442 := n3_; have GW442 := n4_; have GE442 := n5_; clear n0_ n1_ n2_ n3_ n4_ n5_; clear hb hbox hg; have hcz6_0 : w5.cell? ⟨gb442, 0, none⟩ = some (.bool a0_0) := zc BK442 0 rfl; have hcz6_1 : w5.cell? ⟨gb442, 1, none⟩ = some (.slice A0_1 l0_1.length c0_1) := zc BK442 1 rfl; have hcz6_2 : w5.cell? ⟨gb442, 2, none⟩ = some (.slice A0_2 l0_2.length c0_2) := zc BK442 2 rfl; have hfz6_0 := zF BK442 0; have hfz6_1 := zF BK442 1; have hfz6_2 := zF BK442 2) | (go_at_call 70; (with_reducible refine (bignat_BitLen.calls k _ _ l0_2 t443 _ ?side1 ?side2 A2.out).mono ?_); (case side1 => exact zC (Kd.V_reads' HO0_2.out).2.2); (case side2 => exact (Kd.V_reads' HO0_2.out).2.1); rintro e w7 ⟨rfl, hb⟩; have n0_ := zA (Kd.V_below (zv HO0_1 rfl) hb); have n1_ := zA (Kd.V_below (zv HO0_2 rfl) hb); have n2_ := zkb BK442 hb; have n3_ := zbb HB hb rfl; clear HO0_1; clear HO0_2; clear BK442; clear HB; have HO0_1 := n0_; have HO0_2 := n1_; have BK442 := n2_; have HB := n3_; clear n0_ n1_ n2_ n3_) | (go_at_call 56; (with_reducible refine (rational_one.calls  t444 _ A4.out).mono ?_); rintro e w8 ⟨v445, rfl, ho0, hb⟩; have n0_ := zA (Kd.V_elder' (zv HO0_1 rfl) (Kd.R_base ho0) hb); have n1_ := zA (Kd.V_elder' (zv HO0_2 rfl) (Kd.R_base ho0) hb); have n2_ := zA (Kd.R_lower (Kd.R_newM (M := fun k_ => (w.heap.size ≤ k_)) ho0 (below_size (zb HB rfl)) (fun k_ h_ => h_)) (below_size (zb HB rfl))); have n3_ := zkb BK442 hb; have n4_ := zbb HB hb rfl; clear HO0_1; clear HO0_2; clear BK442; clear HB; have HO0_1 := n0_; have HO0_2 := n1_; have HO446 := n2_; have BK442 := n3_; have HB := n4_; clear n0_ n1_ n2_ n3_ n4_)); try go_wp2_with (first | ((with_reducible refine gate_dst (N := 1) rfl ?_); refine box_event ?hg (N := 1) ?hd (cs := #[.bool a0_0, .slice A0_1 l0_1.length c0_1, .slice A0_2 l0_2.length c0_2]) (t := 25) ?hr ?_; (case hd => rfl); (case hg => rfl); (case hr => first | (go_simp; done) | (go_simp; rfl)); intro gb442 hg w5 hbox hb; have n0_ := zA (Kd.V_below (Kd.V_elderB (zv HO0_1 rfl) gb442 (Nat.le_of_eq hg.symm)) hb); have n1_ := zA (Kd.V_below (Kd.V_elderB (zv HO0_2 rfl) gb442 (Nat.le_of_eq hg.symm)) hb); have n2_ := zbb HB hb rfl; have n3_ := zA (hbox); have n4_ := zA ((by rw [hg]; exact (below_size (zb HB rfl)) : w.heap.size ≤ gb442)); have n5_ := zA ((by rw [hg]; exact (below_size (zb HB rfl)) : w.heap.size ≤ gb442)); clear HO0_1; clear HO0_2; clear HB; have HO0_1 := n0_; have HO0_2 := n1_; have HB := n2_; have BK442 := n3_; have GW442 := n4_; have GE442 := n5_; clear n0_ n1_ n2_ n3_ n4_ n5_; clear hb hbox hg; have hcz6_0 : w5.cell? ⟨gb442, 0, none⟩ = some (.bool a0_0) := zc BK442 0 rfl; have hcz6_1 : w5.cell? ⟨gb442, 1, none⟩ = some (.slice A0_1 l0_1.length c0_1) := zc BK442 1 rfl; have hcz6_2 : w5.cell? ⟨gb442, 2, none⟩ = some (.slice A0_2 l0_2.length c0_2) := zc BK442 2 rfl; have hfz6_0 := zF BK442 0; have hfz6_1 := zF BK442 1; have hfz6_2 := zF BK442 2) | (go_at_call 70; (with_reducible refine (bignat_BitLen.calls k _ _ l0_2 t443 _ ?side1 ?side2 A2.out).mono ?_); (case side1 => exact zC (Kd.V_reads' HO0_2.out).2.2); (case side2 => exact (Kd.V_reads' HO0_2.out).2.1); rintro e w7 ⟨rfl, hb⟩; have n0_ := zA (Kd.V_below (zv HO0_1 rfl) hb); have n1_ := zA (Kd.V_below (zv HO0_2 rfl) hb); have n2_ := zkb BK442 hb; have n3_ := zbb HB hb rfl; clear HO0_1; clear HO0_2; clear BK442; clear HB; have HO0_1 := n0_; have HO0_2 := n1_; have BK442 := n2_; have HB := n3_; clear n0_ n1_ n2_ n3_) | (go_at_call 56; (with_reducible refine (rational_one.calls  t444 _ A4.out).mono ?_); rintro e w8 ⟨v445, rfl, ho0, hb⟩; have n0_ := zA (Kd.V_elder' (zv HO0_1 rfl) (Kd.R_base ho0) hb); have n1_ := zA (Kd.V_elder' (zv HO0_2 rfl) (Kd.R_base ho0) hb); have n2_ := zA (Kd.R_lower (Kd.R_newM (M := fun k_ => (w.heap.size ≤ k_)) ho0 (below_size (zb HB rfl)) (fun k_ h_ => h_)) (below_size (zb HB rfl))); have n3_ := zkb BK442 hb; have n4_ := zbb HB hb rfl; clear HO0_1; clear HO0_2; clear BK442; clear HB; have HO0_1 := n0_; have HO0_2 := n1_; have HO446 := n2_; have BK442 := n3_; have HB := n4_; clear n0_ n1_ n2_ n3_ n4_)))
  go_ret3
  exact ⟨_, _, zE, Kd.V_nil _ _ _ _ _, Kd.V_mono (Kd.R_V (zRM HO446.out (fun _ hk => hk.1))) (fun k_ hk => by first | exact ⟨(.inr (hk.1)), hk.2⟩ | exact (.inr (hk))), zG1 GE442.out⟩
 rw [if_neg c3] at H
 have c3b0 := beq_eq_false_iff_ne.mpr c3
 have c3b1 := bne_iff_ne.mpr c3
 obtain ⟨t447, A90, H⟩ := zi H
 replace H : (if t447 = 0 then ((rational_one.f).bind fun t448 => (some (false, ([] : List Int), t448))) else (some (a0_0, l0_1, l0_2))) = some (r1, r2, r3) := H
 have A9 := zA A90
 clear A90
 by_cases c10 : t447 = 0
 ·
  rw [if_pos c10] at H
  have c10b0 := beq_iff_eq.mpr c10
  have c10b1 := bne_eq_false_iff_eq.mpr c10
  clear c10
  obtain ⟨t448, A110, H⟩ := zi H
  replace H : (some (false, ([] : List Int), t448)) = some (r1, r2, r3) := H
  have A11 := zA A110
  clear A110
  simp only [Option.some.injEq, Prod.mk.injEq] at H
  obtain ⟨rfl, rfl, rfl⟩ := H
  go_enter Tryd.func66, Tryd.ntmps66
  have M187_0 : Aside0 True := ⟨trivial⟩
  have M187_1 : Aside0 True := ⟨trivial⟩
  go_wp2_with (first | ((with_reducible refine gate_dst (N := 1) rfl ?_); refine box_event ?hg (N := 1) ?hd (cs := #[.bool a0_0, .slice A0_1 l0_1.length c0_1, .slice A0_2 l0_2.length c0_2]) (t := 25) ?hr ?_; (case hd => rfl); (case hg => rfl); (case hr => first | (go_simp; done) | (go_simp; rfl)); intro gb442 hg w12 hbox hb; replace HO0_1 := zA (Kd.V_below (Kd.V_elderB (zv HO0_1 rfl) gb442 (Nat.le_of_eq hg.symm)) hb); replace HO0_2 := zA (Kd.V_below (Kd.V_elderB (zv HO0_2 rfl) gb442 (Nat.le_of_eq hg.symm)) hb); have BK442 := zA (hbox); have GW442 := zA ((by rw [hg]; exact (below_size (zb HB rfl)) : w.heap.size ≤ gb442)); have GE442 := zA ((by rw [hg]; exact (below_size (zb HB rfl)) : w.heap.size ≤ gb442)); replace HB := zbb HB hb rfl; clear hb hbox hg; have hcz13_0 := zc BK442 0 (v := .bool a0_0) rfl; have hcz13_1 := zc BK442 1 (v := .slice A0_1 l0_1.length c0_1) rfl; have hcz13_2 := zc BK442 2 (v := .slice A0_2 l0_2.length c0_2) rfl; have hfz13_0 := zF BK442 0; have hfz13_1 := zF BK442 1; have hfz13_2 := zF BK442 2) | (go_at_call 70; clear M187_0; (with_reducible refine (bignat_BitLen.calls k _ _ l0_2 t443 _ ?side1 ?side2 A2.out).mono ?_); (case side1 => exact zC (Kd.V_reads' HO0_2.out).2.2); (case side2 => exact (Kd.V_reads' HO0_2.out).2.1); rintro e w14 ⟨rfl, hb⟩; replace HO0_1 := zA (Kd.V_below (zv HO0_1 rfl) hb); replace HO0_2 := zA (Kd.V_below (zv HO0_2 rfl) hb); replace BK442 := zkb BK442 hb; replace HB := zbb HB hb rfl; have hcz15_0 := zc BK442 0 (v := .bool a0_0) rfl; have hcz15_1 := zc BK442 1 (v := .slice A0_1 l0_1.length c0_1) rfl; have hcz15_2 := zc BK442 2 (v := .slice A0_2 l0_2.length c0_2) rfl; have hfz15_0 := zF BK442 0; have hfz15_1 := zF BK442 1; have hfz15_2 := zF BK442 2) | (go_at_call 70; clear M187_1; (with_reducible refine (bignat_BitLen.calls k _ _ l0_1 t447 _ ?side1 ?side2 A9.out).mono ?_); (case side1 => exact zC (Kd.V_reads' HO0_1.out).2.2); (case side2 => exact (Kd.V_reads' HO0_1.out).2.1); rintro e w16 ⟨rfl, hb⟩; replace HO0_1 := zA (Kd.V_below (zv HO0_1 rfl) hb); replace HO0_2 := zA (Kd.V_below (zv HO0_2 rfl) hb); replace BK442 := zkb BK442 hb; replace HB := zbb HB hb rfl) | (go_at_call 56; (with_reducible refine (rational_one.calls  t448 _ A11.out).mono ?_); rintro e w17 ⟨v449, rfl, ho0, hb⟩; replace HO0_1 := zA (Kd.V_elder' (zv HO0_1 rfl) (Kd.R_base ho0) hb); replace HO0_2 := zA (Kd.V_elder' (zv HO0_2 rfl) (Kd.R_base ho0) hb); have HO450 := zA (Kd.R_lower (Kd.R_newM (M := fun k_ => (w.heap.size ≤ k_)) ho0 (below_size (zb HB rfl)) (fun k_ h_ => h_)) (below_size (zb HB rfl))); replace BK442 := zkb BK442 hb; replace HB := zbb HB hb rfl))
  repeat (go_quiet (first | ((with_reducible refine gate_dst (N := 1) rfl ?_); refine box_event ?hg (N := 1) ?hd (cs := #[.bool a0_0, .slice A0_1 l0_1.length c0_1, .slice A0_2 l0_2.length c0_2]) (t := 25) ?hr ?_; (case hd => rfl); (case hg => rfl); (case hr => first | (go_simp; done) | (go_simp; rfl)); intro gb442 hg w12 hbox hb; have n0_ := zA (Kd.V_below (Kd.V_elderB (zv HO0_1 rfl) gb442 (Nat.le_of_eq hg.symm)) hb); have n1_ := zA (Kd.V_below (Kd.V_elderB (zv HO0_2 rfl) gb442 (Nat.le_of_eq hg.symm)) hb); have n2_ := zbb HB hb rfl; have n3_ := zA (hbox); have n4_ := zA ((by rw [hg]; exact (below_size (zb HB rfl)) : w.heap.size ≤ gb442)); have n5_ := zA ((by rw [hg]; exact (below_size (zb HB rfl)) : w.heap.size ≤ gb442)); clear HO0_1; clear HO0_2; clear HB; have HO0_1 := n0_; have HO0_2 := n1_; have HB := n2_; have BK442 := n3_; have GW442 := n4_; have GE442 := n5_; clear n0_ n1_ n2_ n3_ n4_ n5_; clear hb hbox hg; have hcz13_0 : w12.cell? ⟨gb442, 0, none⟩ = some (.bool a0_0) := zc BK442 0 rfl; have hcz13_1 : w12.cell? ⟨gb442, 1, none⟩ = some (.slice A0_1 l0_1.length c0_1) := zc BK442 1 rfl; have hcz13_2 : w12.cell? ⟨gb442, 2, none⟩ = some (.slice A0_2 l0_2.length c0_2) := zc BK442 2 rfl; have hfz13_0 := zF BK442 0; have hfz13_1 := zF BK442 1; have hfz13_2 := zF BK442 2) | (go_at_call 70; (with_reducible refine (bignat_BitLen.calls k _ _ l0_2 t443 _ ?side1 ?side2 A2.out).mono ?_); (case side1 => exact zC (Kd.V_reads' HO0_2.out).2.2); (case side2 => exact (Kd.V_reads' HO0_2.out).2.1); rintro e w14 ⟨rfl, hb⟩; have n0_ := zA (Kd.V_below (zv HO0_1 rfl) hb); have n1_ := zA (Kd.V_below (zv HO0_2 rfl) hb); have n2_ := zkb BK442 hb; have n3_ := zbb HB hb rfl; clear HO0_1; clear HO0_2; clear BK442; clear HB; have HO0_1 := n0_; have HO0_2 := n1_; have BK442 := n2_; have HB := n3_; clear n0_ n1_ n2_ n3_; have hcz15_0 : w14.cell? ⟨gb442, 0, none⟩ = some (.bool a0_0) := zc BK442 0 rfl; have hcz15_1 : w14.cell? ⟨gb442, 1, none⟩ = some (.slice A0_1 l0_1.length c0_1) := zc BK442 1 rfl; have hcz15_2 : w14.cell? ⟨gb442, 2, none⟩ = some (.slice A0_2 l0_2.length c0_2) := zc BK442 2 rfl; have hfz15_0 := zF BK442 0; have hfz15_1 := zF BK442 1; have hfz15_2 := zF BK442 2) | (go_at_call 70; (with_reducible refine (bignat_BitLen.calls k _ _ l0_1 t447 _ ?side1 ?side2 A9.out).mono ?_); (case side1 => exact zC (Kd.V_reads' HO0_1.out).2.2); (case side2 => exact (Kd.V_reads' HO0_1.out).2.1); rintro e w16 ⟨rfl, hb⟩; have n0_ := zA (Kd.V_below (zv HO0_1 rfl) hb); have n1_ := zA (Kd.V_below (zv HO0_2 rfl) hb); have n2_ := zkb BK442 hb; have n3_ := zbb HB hb rfl; clear HO0_1; clear HO0_2; clear BK442; clear HB; have HO0_1 := n0_; have HO0_2 := n1_; have BK442 := n2_; have HB := n3_; clear n0_ n1_ n2_ n3_) | (go_at_call 56; (with_reducible refine (rational_one.calls  t448 _ A11.out).mono ?_); rintro e w17 ⟨v449, rfl, ho0, hb⟩; have n0_ := zA (Kd.V_elder' (zv HO0_1 rfl) (Kd.R_base ho0) hb); have n1_ := zA (Kd.V_elder' (zv HO0_2 rfl) (Kd.R_base ho0) hb); have n2_ := zA (Kd.R_lower (Kd.R_newM (M := fun k_ => (w.heap.size ≤ k_)) ho0 (below_size (zb HB rfl)) (fun k_ h_ => h_)) (below_size (zb HB rfl))); have n3_ := zkb BK442 hb; have n4_ := zbb HB hb rfl; clear HO0_1; clear HO0_2; clear BK442; clear HB; have HO0_1 := n0_; have HO0_2 := n1_; have HO450 := n2_; have BK442 := n3_; have HB := n4_; clear n0_ n1_ n2_ n3_ n4_)); try go_wp2_with (first | ((with_reducible refine gate_dst (N := 1) rfl ?_); refine box_event ?hg (N := 1) ?hd (cs := #[.bool a0_0, .slice A0_1 l0_1.length c0_1, .slice A0_2 l0_2.length c0_2]) (t := 25) ?hr ?_; (case hd => rfl); (case hg => rfl); (case hr => first | (go_simp; done) | (go_simp; rfl)); intro gb442 hg w12 hbox hb; have n0_ := zA (Kd.V_below (Kd.V_elderB (zv HO0_1 rfl) gb442 (Nat.le_of_eq hg.symm)) hb); have n1_ := zA (Kd.V_below (Kd.V_elderB (zv HO0_2 rfl) gb442 (Nat.le_of_eq hg.symm)) hb); have n2_ := zbb HB hb rfl; have n3_ := zA (hbox); have n4_ := zA ((by rw [hg]; exact (below_size (zb HB rfl)) : w.heap.size ≤ gb442)); have n5_ := zA ((by rw [hg]; exact (below_size (zb HB rfl)) : w.heap.size ≤ gb442)); clear HO0_1; clear HO0_2; clear HB; have HO0_1 := n0_; have HO0_2 := n1_; have HB := n2_; have BK442 := n3_; have GW442 := n4_; have GE442 := n5_; clear n0_ n1_ n2_ n3_ n4_ n5_; clear hb hbox hg; have hcz13_0 : w12.cell? ⟨gb442, 0, none⟩ = some (.bool a0_0) := zc BK442 0 rfl; have hcz13_1 : w12.cell? ⟨gb442, 1, none⟩ = some (.slice A0_1 l0_1.length c0_1) := zc BK442 1 rfl; have hcz13_2 : w12.cell? ⟨gb442, 2, none⟩ = some (.slice A0_2 l0_2.length c0_2) := zc BK442 2 rfl; have hfz13_0 := zF BK442 0; have hfz13_1 := zF BK442 1; have hfz13_2 := zF BK442 2) | (go_at_call 70; (with_reducible refine (bignat_BitLen.calls k _ _ l0_2 t443 _ ?side1 ?side2 A2.out).mono ?_); (case side1 => exact zC (Kd.V_reads' HO0_2.out).2.2); (case side2 => exact (Kd.V_reads' HO0_2.out).2.1); rintro e w14 ⟨rfl, hb⟩; have n0_ := zA (Kd.V_below (zv HO0_1 rfl) hb); have n1_ := zA (Kd.V_below (zv HO0_2 rfl) hb); have n2_ := zkb BK442 hb; have n3_ := zbb HB hb rfl; clear HO0_1; clear HO0_2; clear BK442; clear HB; have HO0_1 := n0_; have HO0_2 := n1_; have BK442 := n2_; have HB := n3_; clear n0_ n1_ n2_ n3_; have hcz15_0 : w14.cell? ⟨gb442, 0, none⟩ = some (.bool a0_0) := zc BK442 0 rfl; have hcz15_1 : w14.cell? ⟨gb442, 1, none⟩ = some (.slice A0_1 l0_1.length c0_1) := zc BK442 1 rfl; have hcz15_2 : w14.cell? ⟨gb442, 2, none⟩ = some (.slice A0_2 l0_2.length c0_2) := zc BK442 2 rfl; have hfz15_0 := zF BK442 0; have hfz15_1 := zF BK442 1; have hfz15_2 := zF BK442 2) | (go_at_call 70; (with_reducible refine (bignat_BitLen.calls k _ _ l0_1 t447 _ ?side1 ?side2 A9.out).mono ?_); (case side1 => exact zC (Kd.V_reads' HO0_1.out).2.2); (case side2 => exact (Kd.V_reads' HO0_1.out).2.1); rintro e w16 ⟨rfl, hb⟩; have n0_ := zA (Kd.V_below (zv HO0_1 rfl) hb); have n1_ := zA (Kd.V_below (zv HO0_2 rfl) hb); have n2_ := zkb BK442 hb; have n3_ := zbb HB hb rfl; clear HO0_1; clear HO0_2; clear BK442; clear HB; have HO0_1 := n0_; have HO0_2 := n1_; have BK442 := n2_; have HB := n3_; clear n0_ n1_ n2_ n3_) | (go_at_call 56; (with_reducible refine (rational_one.calls  t448 _ A11.out).mono ?_); rintro e w17 ⟨v449, rfl, ho0, hb⟩; have n0_ := zA (Kd.V_elder' (zv HO0_1 rfl) (Kd.R_base ho0) hb); have n1_ := zA (Kd.V_elder' (zv HO0_2 rfl) (Kd.R_base ho0) hb); have n2_ := zA (Kd.R_lower (Kd.R_newM (M := fun k_ => (w.heap.size ≤ k_)) ho0 (below_size (zb HB rfl)) (fun k_ h_ => h_)) (below_size (zb HB rfl))); have n3_ := zkb BK442 hb; have n4_ := zbb HB hb rfl; clear HO0_1; clear HO0_2; clear BK442; clear HB; have HO0_1 := n0_; have HO0_2 := n1_; have HO450 := n2_; have BK442 := n3_; have HB := n4_; clear n0_ n1_ n2_ n3_ n4_)))
  go_ret3
  exact ⟨_, _, zE, Kd.V_nil _ _ _ _ _, Kd.V_mono (Kd.R_V (zRM HO450.out (fun _ hk => hk.1))) (fun k_ hk => by first | exact ⟨(.inr (hk.1)), hk.2⟩ | exact (.inr (hk))), zG1 GE442.out⟩
 rw [if_neg c10] at H
 have c10b0 := beq_eq_false_iff_ne.mpr c10
 have c10b1 := bne_iff_ne.mpr c10
 simp only [Option.some.injEq, Prod.mk.injEq] at H
 obtain ⟨rfl, rfl, rfl⟩ := H
 go_enter Tryd.func66, Tryd.ntmps66
 have M197_0 : Aside0 True := ⟨trivial⟩
 have M197_1 : Aside0 True := ⟨trivial⟩
 go_wp2_with (first | ((with_reducible refine gate_dst (N := 1) rfl ?_); refine box_event ?hg (N := 1) ?hd (cs := #[.bool a0_0, .slice A0_1 l0_1.length c0_1, .slice A0_2 l0_2.length c0_2]) (t := 25) ?hr ?_; (case hd => rfl); (case hg => rfl); (case hr => first | (go_simp; done) | (go_simp; rfl)); intro gb442 hg w18 hbox hb; replace HO0_1 := zA (Kd.V_below (Kd.V_elderB (zv HO0_1 rfl) gb442 (Nat.le_of_eq hg.symm)) hb); replace HO0_2 := zA (Kd.V_below (Kd.V_elderB (zv HO0_2 rfl) gb442 (Nat.le_of_eq hg.symm)) hb); have BK442 := zA (hbox); have GW442 := zA ((by rw [hg]; exact (below_size (zb HB rfl)) : w.heap.size ≤ gb442)); have GE442 := zA ((by rw [hg]; exact (below_size (zb HB rfl)) : w.heap.size ≤ gb442)); replace HB := zbb HB hb rfl; clear hb hbox hg; have hcz19_0 := zc BK442 0 (v := .bool a0_0) rfl; have hcz19_1 := zc BK442 1 (v := .slice A0_1 l0_1.length c0_1) rfl; have hcz19_2 := zc BK442 2 (v := .slice A0_2 l0_2.length c0_2) rfl; have hfz19_0 := zF BK442 0; have hfz19_1 := zF BK442 1; have hfz19_2 := zF BK442 2) | (go_at_call 70; clear M197_0; (with_reducible refine (bignat_BitLen.calls k _ _ l0_2 t443 _ ?side1 ?side2 A2.out).mono ?_); (case side1 => exact zC (Kd.V_reads' HO0_2.out).2.2); (case side2 => exact (Kd.V_reads' HO0_2.out).2.1); rintro e w20 ⟨rfl, hb⟩; replace HO0_1 := zA (Kd.V_below (zv HO0_1 rfl) hb); replace HO0_2 := zA (Kd.V_below (zv HO0_2 rfl) hb); replace BK442 := zkb BK442 hb; replace HB := zbb HB hb rfl; have hcz21_0 := zc BK442 0 (v := .bool a0_0) rfl; have hcz21_1 := zc BK442 1 (v := .slice A0_1 l0_1.length c0_1) rfl; have hcz21_2 := zc BK442 2 (v := .slice A0_2 l0_2.length c0_2) rfl; have hfz21_0 := zF BK442 0; have hfz21_1 := zF BK442 1; have hfz21_2 := zF BK442 2) | (go_at_call 70; clear M197_1; (with_reducible refine (bignat_BitLen.calls k _ _ l0_1 t447 _ ?side1 ?side2 A9.out).mono ?_); (case side1 => exact zC (Kd.V_reads' HO0_1.out).2.2); (case side2 => exact (Kd.V_reads' HO0_1.out).2.1); rintro e w22 ⟨rfl, hb⟩; replace HO0_1 := zA (Kd.V_below (zv HO0_1 rfl) hb); replace HO0_2 := zA (Kd.V_below (zv HO0_2 rfl) hb); replace BK442 := zkb BK442 hb; replace HB := zbb HB hb rfl; have hcz23_0 := zc BK442 0 (v := .bool a0_0) rfl; have hcz23_1 := zc BK442 1 (v := .slice A0_1 l0_1.length c0_1) rfl; have hcz23_2 := zc BK442 2 (v := .slice A0_2 l0_2.length c0_2) rfl; have hfz23_0 := zF BK442 0; have hfz23_1 := zF BK442 1; have hfz23_2 := zF BK442 2))
 repeat (go_quiet (first | ((with_reducible refine gate_dst (N := 1) rfl ?_); refine box_event ?hg (N := 1) ?hd (cs := #[.bool a0_0, .slice A0_1 l0_1.length c0_1, .slice A0_2 l0_2.length c0_2]) (t := 25) ?hr ?_; (case hd => rfl); (case hg => rfl); (case hr => first | (go_simp; done) | (go_simp; rfl)); intro gb442 hg w18 hbox hb; have n0_ := zA (Kd.V_below (Kd.V_elderB (zv HO0_1 rfl) gb442 (Nat.le_of_eq hg.symm)) hb); have n1_ := zA (Kd.V_below (Kd.V_elderB (zv HO0_2 rfl) gb442 (Nat.le_of_eq hg.symm)) hb); have n2_ := zbb HB hb rfl; have n3_ := zA (hbox); have n4_ := zA ((by rw [hg]; exact (below_size (zb HB rfl)) : w.heap.size ≤ gb442)); have n5_ := zA ((by rw [hg]; exact (below_size (zb HB rfl)) : w.heap.size ≤ gb442)); clear HO0_1; clear HO0_2; clear HB; have HO0_1 := n0_; have HO0_2 := n1_; have HB := n2_; have BK442 := n3_; have GW442 := n4_; have GE442 := n5_; clear n0_ n1_ n2_ n3_ n4_ n5_; clear hb hbox hg; have hcz19_0 : w18.cell? ⟨gb442, 0, none⟩ = some (.bool a0_0) := zc BK442 0 rfl; have hcz19_1 : w18.cell? ⟨gb442, 1, none⟩ = some (.slice A0_1 l0_1.length c0_1) := zc BK442 1 rfl; have hcz19_2 : w18.cell? ⟨gb442, 2, none⟩ = some (.slice A0_2 l0_2.length c0_2) := zc BK442 2 rfl; have hfz19_0 := zF BK442 0; have hfz19_1 := zF BK442 1; have hfz19_2 := zF BK442 2) | (go_at_call 70; (with_reducible refine (bignat_BitLen.calls k _ _ l0_2 t443 _ ?side1 ?side2 A2.out).mono ?_); (case side1 => exact zC (Kd.V_reads' HO0_2.out).2.2); (case side2 => exact (Kd.V_reads' HO0_2.out).2.1); rintro e w20 ⟨rfl, hb⟩; have n0_ := zA (Kd.V_below (zv HO0_1 rfl) hb); have n1_ := zA (Kd.V_below (zv HO0_2 rfl) hb); have n2_ := zkb BK442 hb; have n3_ := zbb HB hb rfl; clear HO0_1; clear HO0_2; clear BK442; clear HB; have HO0_1 := n0_; have HO0_2 := n1_; have BK442 := n2_; have HB := n3_; clear n0_ n1_ n2_ n3_; have hcz21_0 : w20.cell? ⟨gb442, 0, none⟩ = some (.bool a0_0) := zc BK442 0 rfl; have hcz21_1 : w20.cell? ⟨gb442, 1, none⟩ = some (.slice A0_1 l0_1.length c0_1) := zc BK442 1 rfl; have hcz21_2 : w20.cell? ⟨gb442, 2, none⟩ = some (.slice A0_2 l0_2.length c0_2) := zc BK442 2 rfl; have hfz21_0 := zF BK442 0; have hfz21_1 := zF BK442 1; have hfz21_2 := zF BK442 2) | (go_at_call 70; (with_reducible refine (bignat_BitLen.calls k _ _ l0_1 t447 _ ?side1 ?side2 A9.out).mono ?_); (case side1 => exact zC (Kd.V_reads' HO0_1.out).2.2); (case side2 => exact (Kd.V_reads' HO0_1.out).2.1); rintro e w22 ⟨rfl, hb⟩; have n0_ := zA (Kd.V_below (zv HO0_1 rfl) hb); have n1_ := zA (Kd.V_below (zv HO0_2 rfl) hb); have n2_ := zkb BK442 hb; have n3_ := zbb HB hb rfl; clear HO0_1; clear HO0_2; clear BK442; clear HB; have HO0_1 := n0_; have HO0_2 := n1_; have BK442 := n2_; have HB := n3_; clear n0_ n1_ n2_ n3_; have hcz23_0 : w22.cell? ⟨gb442, 0, none⟩ = some (.bool a0_0) := zc BK442 0 rfl; have hcz23_1 : w22.cell? ⟨gb442, 1, none⟩ = some (.slice A0_1 l0_1.length c0_1) := zc BK442 1 rfl; have hcz23_2 : w22.cell? ⟨gb442, 2, none⟩ = some (.slice A0_2 l0_2.length c0_2) := zc BK442 2 rfl; have hfz23_0 := zF BK442 0; have hfz23_1 := zF BK442 1; have hfz23_2 := zF BK442 2)); try go_wp2_with (first | ((with_reducible refine gate_dst (N := 1) rfl ?_); refine box_event ?hg (N := 1) ?hd (cs := #[.bool a0_0, .slice A0_1 l0_1.length c0_1, .slice A0_2 l0_2.length c0_2]) (t := 25) ?hr ?_; (case hd => rfl); (case hg => rfl); (case hr => first | (go_simp; done) | (go_simp; rfl)); intro gb442 hg w18 hbox hb; have n0_ := zA (Kd.V_below (Kd.V_elderB (zv HO0_1 rfl) gb442 (Nat.le_of_eq hg.symm)) hb); have n1_ := zA (Kd.V_below (Kd.V_elderB (zv HO0_2 rfl) gb442 (Nat.le_of_eq hg.symm)) hb); have n2_ := zbb HB hb rfl; have n3_ := zA (hbox); have n4_ := zA ((by rw [hg]; exact (below_size (zb HB rfl)) : w.heap.size ≤ gb442)); have n5_ := zA ((by rw [hg]; exact (below_size (zb HB rfl)) : w.heap.size ≤ gb442)); clear HO0_1; clear HO0_2; clear HB; have HO0_1 := n0_; have HO0_2 := n1_; have HB := n2_; have BK442 := n3_; have GW442 := n4_; have GE442 := n5_; clear n0_ n1_ n2_ n3_ n4_ n5_; clear hb hbox hg; have hcz19_0 : w18.cell? ⟨gb442, 0, none⟩ = some (.bool a0_0) := zc BK442 0 rfl; have hcz19_1 : w18.cell? ⟨gb442, 1, none⟩ = some (.slice A0_1 l0_1.length c0_1) := zc BK442 1 rfl; have hcz19_2 : w18.cell? ⟨gb442, 2, none⟩ = some (.slice A0_2 l0_2.length c0_2) := zc BK442 2 rfl; have hfz19_0 := zF BK442 0; have hfz19_1 := zF BK442 1; have hfz19_2 := zF BK442 2) | (go_at_call 70; (with_reducible refine (bignat_BitLen.calls k _ _ l0_2 t443 _ ?side1 ?side2 A2.out).mono ?_); (case side1 => exact zC (Kd.V_reads' HO0_2.out).2.2); (case side2 => exact (Kd.V_reads' HO0_2.out).2.1); rintro e w20 ⟨rfl, hb⟩; have n0_ := zA (Kd.V_below (zv HO0_1 rfl) hb); have n1_ := zA (Kd.V_below (zv HO0_2 rfl) hb); have n2_ := zkb BK442 hb; have n3_ := zbb HB hb rfl; clear HO0_1; clear HO0_2; clear BK442; clear HB; have HO0_1 := n0_; have HO0_2 := n1_; have BK442 := n2_; have HB := n3_; clear n0_ n1_ n2_ n3_; have hcz21_0 : w20.cell? ⟨gb442, 0, none⟩ = some (.bool a0_0) := zc BK442 0 rfl; have hcz21_1 : w20.cell? ⟨gb442, 1, none⟩ = some (.slice A0_1 l0_1.length c0_1) := zc BK442 1 rfl; have hcz21_2 : w20.cell? ⟨gb442, 2, none⟩ = some (.slice A0_2 l0_2.length c0_2) := zc BK442 2 rfl; have hfz21_0 := zF BK442 0; have hfz21_1 := zF BK442 1; have hfz21_2 := zF BK442 2) | (go_at_call 70; (with_reducible refine (bignat_BitLen.calls k _ _ l0_1 t447 _ ?side1 ?side2 A9.out).mono ?_); (case side1 => exact zC (Kd.V_reads' HO0_1.out).2.2); (case side2 => exact (Kd.V_reads' HO0_1.out).2.1); rintro e w22 ⟨rfl, hb⟩; have n0_ := zA (Kd.V_below (zv HO0_1 rfl) hb); have n1_ := zA (Kd.V_below (zv HO0_2 rfl) hb); have n2_ := zkb BK442 hb; have n3_ := zbb HB hb rfl; clear HO0_1; clear HO0_2; clear BK442; clear HB; have HO0_1 := n0_; have HO0_2 := n1_; have BK442 := n2_; have HB := n3_; clear n0_ n1_ n2_ n3_; have hcz23_0 : w22.cell? ⟨gb442, 0, none⟩ = some (.bool a0_0) := zc BK442 0 rfl; have hcz23_1 : w22.cell? ⟨gb442, 1, none⟩ = some (.slice A0_1 l0_1.length c0_1) := zc BK442 1 rfl; have hcz23_2 : w22.cell? ⟨gb442, 2, none⟩ = some (.slice A0_2 l0_2.length c0_2) := zc BK442 2 rfl; have hfz23_0 := zF BK442 0; have hfz23_1 := zF BK442 1; have hfz23_2 := zF BK442 2)))
 go_ret3
 exact ⟨_, _, zE, zVM HO0_1.out (fun _ hk => hk.1), zVM HO0_2.out (fun _ hk => hk.1), zG1 GE442.out⟩

def bignat_Add.l0 : Nat → List Int → List Int → Int → Int → Int → Option (List Int)
 | 0, _, _, _, _, _ => none
 | k + 1, x0, x5, x6, x24, x25 => if x25 < x24 then (none) else (if 0 ≤ (x0.length : Int) then (if (x0.length : Int) < (x5.length : Int) then ((bignat_trim.f k (x5.set ((x0.length : Int) : Int).toNat ((x6) % 4294967296))).bind fun t461 => (some t461)) else (none)) else (none))
def bignat_Add.f (k : Nat) (l0 : List Int) (l1 : List Int) : Option (List Int) := (bignat_trim.f k l0).bind fun t451 => ((bignat_trim.f k l1).bind fun t454 => (if (t451.length : Int) < (t454.length : Int) then (none) else (if 0 ≤ (wrap64 ((t451.length : Int) + 1)) then (if (wrap64 ((t451.length : Int) + 1) : Int).toNat ≤ 70368744177664 then (bignat_Add.l0 k t451 (List.replicate (wrap64 ((t451.length : Int) + 1) : Int).toNat 0) 0 (t451.length : Int) 0) else (none)) else (none))))
theorem bignat_Add.mono_l : ∀ k, (∀ y0 y1 y2 y3 y4, LeO (bignat_Add.l0 k y0 y1 y2 y3 y4) (bignat_Add.l0 (k + 1) y0 y1 y2 y3 y4))
 | 0 => fun _ _ _ _ _ r h => by simp [bignat_Add.l0] at h
 | k + 1 => by
  have ih0 := bignat_Add.mono_l k
  intro y0 y1 y2 y3 y4
  unfold bignat_Add.l0
  exact zm2 ih0 bignat_trim.mono
theorem bignat_Add.mono : ∀ a0 a1 k, LeO (bignat_Add.f k a0 a1) (bignat_Add.f (k + 1) a0 a1) := by
 intro a0 a1 k
 have ih0 := bignat_Add.mono_l k
 unfold bignat_Add.f
 exact zm2 ih0 bignat_trim.mono
set_option maxHeartbeats 8000000 in
set_option maxRecDepth 100000 in
theorem bignat_Add.calls (k : Nat) (A0 : Option Addr) (c0 : Nat) (l0 : List Int) (A1 : Option Addr) (c1 : Nat) (l1 : List Int) (r : List Int) (w : World) (hr0 : Kd.C (Kd.int .u32) w A0 l0.length l0) (hc0 : l0.length ≤ c0) (hr1 : Kd.C (Kd.int .u32) w A1 l1.length l1) (hc1 : l1.length ≤ c1) (h : bignat_Add.f k l0 l1 = some r) :
 Calls Tryd.prog 68 #[.slice A0 l0.length c0, .slice A1 l1.length c1] w fun e w' => ∃ v0_ : Value, e = .returned (v0_) ∧ Kd.R (Kd.int .u32) 37 w' w.heap.size (fun _ => True) v0_ r ∧ Below w.heap.size w w' := by
 have HR0 := zA hr0
 have HC0 := zA hc0
 clear hr0 hc0
 have HR1 := zA hr1
 have HC1 := zA hc1
 clear hr1 hc1
 have HB := zA (Below.refl w.heap.size w)
 have H : ((bignat_trim.f k l0).bind fun t451 => ((bignat_trim.f k l1).bind fun t454 => (if (t451.length : Int) < (t454.length : Int) then (none) else (if 0 ≤ (wrap64 ((t451.length : Int) + 1)) then (if (wrap64 ((t451.length : Int) + 1) : Int).toNat ≤ 70368744177664 then (bignat_Add.l0 k t451 (List.replicate (wrap64 ((t451.length : Int) + 1) : Int).toNat 0) 0 (t451.length : Int) 0) else (none)) else (none))))) = some r := h
 clear h
 obtain ⟨t451, A30, H⟩ := zi H
 replace H : ((bignat_trim.f k l1).bind fun t454 => (if (t451.length : Int) < (t454.length : Int) then (none) else (if 0 ≤ (wrap64 ((t451.length : Int) + 1)) then (if (wrap64 ((t451.length : Int) + 1) : Int).toNat ≤ 70368744177664 then (bignat_Add.l0 k t451 (List.replicate (wrap64 ((t451.length : Int) + 1) : Int).toNat 0) 0 (t451.length : Int) 0) else (none)) else (none)))) = some r := H
 have A3 := zA A30
 clear A30
 obtain ⟨t454, A40, H⟩ := zi H
 replace H : (if (t451.length : Int) < (t454.length : Int) then (none) else (if 0 ≤ (wrap64 ((t451.length : Int) + 1)) then (if (wrap64 ((t451.length : Int) + 1) : Int).toNat ≤ 70368744177664 then (bignat_Add.l0 k t451 (List.replicate (wrap64 ((t451.length : Int) + 1) : Int).toNat 0) 0 (t451.length : Int) 0) else (none)) else (none))) = some r := H
 have A4 := zA A40
 clear A40
 by_cases c5 : (t451.length : Int) < (t454.length : Int)
 ·
  rw [if_pos c5] at H
  cases H
 rw [if_neg c5] at H
 have c5b0 := decide_eq_false c5
 have c5b1 : decide (t451.length < t454.length) = false := decide_eq_false (fun h => c5 (Int.ofNat_lt.mpr h))
 clear c5
 obtain ⟨ji6, hji6⟩ : ∃ j_ : Int, (wrap64 ((t451.length : Int) + 1)) = j_ := ⟨_, rfl⟩
 replace H : (if 0 ≤ (ji6) then (if (ji6 : Int).toNat ≤ 70368744177664 then (bignat_Add.l0 k t451 (List.replicate (ji6 : Int).toNat 0) 0 (t451.length : Int) 0) else (none)) else (none)) = some r := by first | (rw [hji6] at H; exact H) | (simp only [hji6] at H ⊢; exact H)
 (try rw [hji6] at A3)
 (try rw [hji6] at A4)
 have hji6w : (IntKind.i64.wrap ((t451.length : Int) + 1)) = ji6 := (i64_w _).trans hji6
 by_cases c7 : 0 ≤ (ji6)
 ·
  rw [if_pos c7] at H
  have c7b0 := eq_true c7
  have c7b1 := decide_eq_true c7
  clear c7
  by_cases c8 : (ji6 : Int).toNat ≤ 70368744177664
  ·
   rw [if_pos c8] at H
   have c8b0 := eq_true c8
   have c8b1 := decide_eq_true c8
   clear c8
   obtain ⟨y457, hy457⟩ : ∃ y_ : List Int, y_ = (List.replicate (ji6 : Int).toNat 0) := ⟨_, rfl⟩
   replace H : (bignat_Add.l0 k t451 y457 0 (t451.length : Int) 0) = some r := by first | (rw [hy457]; with_reducible exact H) | (have H2_ := (Option.bind_some _ _).symm.trans H; rw [hy457]; with_reducible exact H2_) | (have H2_ := (Option.bind_some _ _).symm.trans H; with_reducible exact H2_) | with_reducible exact H | (rw [hy457]; exact H) | exact H
   have Ny457 := zA hy457
   clear hy457
   have H' := zA H
   clear H
   go_enter Tryd.func68, Tryd.ntmps68
   go_wp2_with (first | ((with_reducible refine gate_callee (f := 71) rfl ?_); refine goesL_ (some 9) rfl rfl Tryd.func71 zk rfl #[.slice A0 l0.length c0] rfl zX ?_; (with_reducible refine (bignat_trim.calls k (fun k_ => k_ < w.heap.size) _ _ l0 t451 _ ?side1 A3.out).mono ?_); (case side1 => exact Kd.V_mk HC0.out (Kd.F_below (Kd.C_F (Kd.heap_int .u32) HR0.out) (zb HB rfl))); rintro e w9 ⟨v452, rfl, ho0, hb⟩; refine ⟨_, rfl, ?_⟩; have HO453 := zA (Kd.V_lower (Kd.V_mono (ok' := fun k_ => True) ho0 (fun k_ hk_ => trivial)) (below_size (zb HB rfl))); replace HB := zbb HB hb rfl) | ((with_reducible refine gate_callee (f := 71) rfl ?_); refine goesL_ (some 11) rfl rfl Tryd.func71 zk rfl #[.slice A1 l1.length c1] rfl zX ?_; (with_reducible refine (bignat_trim.calls k (fun k_ => k_ < w.heap.size) _ _ l1 t454 _ ?side1 A4.out).mono ?_); (case side1 => exact Kd.V_mk HC1.out (Kd.F_below (Kd.C_F (Kd.heap_int .u32) HR1.out) (zb HB rfl))); rintro e w10 ⟨v455, rfl, ho0, hb⟩; refine ⟨_, rfl, ?_⟩; replace HO453 := zA (Kd.V_below (zv HO453 rfl) hb); have HO456 := zA (Kd.V_lower (Kd.V_mono (ok' := fun k_ => True) ho0 (fun k_ hk_ => trivial)) (below_size (zb HB rfl))); replace HB := zbb HB hb rfl; obtain ⟨Ao11, co11, eo11⟩ := Kd.V_slice HO453.out; subst eo11; obtain ⟨Ao12, co12, eo12⟩ := Kd.V_slice HO456.out; subst eo12) | ((with_reducible refine gate_dst (N := 22) rfl ?_); refine Kd.R_make (Kd.int .u32) _ 37 rfl (N := 22) rfl 23 _ _ rfl ji6 rfl rfl Tryd.underlying23 (.int .u32 0) 4 info37 rfl (by decide) (by omega) 0 (ok := fun _ => True) (okp := fun _ => True) rfl (fun _ hk => hk) trivial zD (Nat.le_trans (Nat.mul_le_mul_right _ (zD : ji6.toNat ≤ 70368744177664)) (by omega)) (Below.refl _ _) (Nat.le_refl _) ?_; intro v458 w13 ho14 hb hg_ hnew_; clear hg_ hnew_; (first | rw [← Ny457.out] at ho14 | (simp only [Int.reduceToNat] at ho14; rw [← Ny457.out] at ho14)); replace HO453 := zA (Kd.V_elder' (zv HO453 rfl) (Kd.R_base ho14) hb); replace HO456 := zA (Kd.V_elder' (zv HO456 rfl) (Kd.R_base ho14) hb); have HO459 := zA (Kd.R_lower ho14 (below_size (zb HB rfl))); replace HB := zbb HB hb rfl; clear hb ho14))
   go_loopg [6, 25] k (fun kq v6 v25 w' => ∃ (x5_1 : List Int) (x6_1 : Int) (x25_1 : Int), v6 = .int .u64 x6_1 ∧ v25 = .int .i64 x25_1 ∧ Aside0 (bignat_Add.l0 kq t451 x5_1 x6_1 (t451.length : Int) x25_1 = some r) ∧ Aside0 (kq ≤ k) ∧ Aside0 (Kd.V (Kd.int .u32) 37 w' w.heap.size (fun k_ => some k_ ≠ (v458 : Value).ownBlock) (.slice Ao11 t451.length co11) t451) ∧ Aside0 (Kd.R (Kd.int .u32) 37 w' w.heap.size (fun _ => True) v458 x5_1) ∧ Aside0 (Below w.heap.size w w'))
   case atStart => exact ⟨(y457), (0), (0), zS, zS, H', ⟨Nat.le_refl _⟩, ⟨zVM HO453.out (fun _ hk => hk.2)⟩, ⟨zR HO459.out⟩, ⟨zH⟩⟩
   case round =>
    clear H'
    try clear c1
    try clear p2
    try clear c5
    try clear c5b0
    try clear c5b1
    try clear c6
    try clear p6
    try clear c7
    try clear c7b0
    try clear c7b1
    try clear c8
    try clear c8b0
    try clear c8b1
    obtain ⟨x5_1, x6_1, x25_1, rfl, rfl, HA, HK1, HO_0, HO_5, HB⟩ := hrel
    cases gk with
    | zero => exact absurd HA.out (by simp [bignat_Add.l0])
    | succ k1 =>
     have H := HA.out
     clear HA
     simp only [bignat_Add.l0] at H
     by_cases c15 : x25_1 < (t451.length : Int)
     ·
      rw [if_pos c15] at H
      cases H
     rw [if_neg c15] at H
     have c15b0 := decide_eq_false c15
     clear c15
     by_cases c16 : 0 ≤ (t451.length : Int)
     ·
      rw [if_pos c16] at H
      have c16b0 := decide_eq_true c16
      have c16b1 : decide (0 ≤ t451.length) = true := decide_eq_true (by omega)
      clear c16
      by_cases c17 : (t451.length : Int) < (x5_1.length : Int)
      ·
       rw [if_pos c17] at H
       have c17b0 := decide_eq_true c17
       have c17b1 : decide (t451.length < x5_1.length) = true := decide_eq_true (Int.ofNat_lt.mp c17)
       clear c17
       obtain ⟨y460, hy460⟩ : ∃ y_ : List Int, y_ = (x5_1.set ((t451.length : Int) : Int).toNat ((x6_1) % 4294967296)) := ⟨_, rfl⟩
       replace H : ((bignat_trim.f k1 y460).bind fun t461 => (some t461)) = some r := by first | (rw [hy460]; with_reducible exact H) | (have H2_ := (Option.bind_some _ _).symm.trans H; rw [hy460]; with_reducible exact H2_) | (have H2_ := (Option.bind_some _ _).symm.trans H; with_reducible exact H2_) | with_reducible exact H | (rw [hy460]; exact H) | exact H
       have Ny460 := zA hy460
       clear hy460
       obtain ⟨t461, A190, H⟩ := zi H
       replace H : (some t461) = some r := H
       have A19 := zA A190
       clear A190
       obtain rfl := Option.some.inj H
       have p18 : 0 ≤ ((t451.length : Int) : Int) := zD
       have q18 : ((t451.length : Int) : Int) < ((x5_1.length : Int) : Int) := zD
       obtain ⟨go18, co18, eo18, gb18, gl18, cl18, HG18⟩ := Kd.R_form HO_5.out (by omega)
       (first | cases eo18 | (injection eo18 with ea_ en_ ec_; (first | subst ea_ | (injection ea_ with ea_; subst ea_)); subst ec_; clear en_))
       have GB18 := zA gb18
       have GG18 := zA HG18
       clear gb18 gl18 HG18
       obtain ⟨hx18_0, hf18_0⟩ := Kd.R_celln 0 HO_5.out ((t451.length : Int) : Int) p18 q18
       replace p18 := eq_true p18
       replace q18 := eq_true q18
       obtain ⟨hy20_, hz20_⟩ := Kd.R_celln 0 HO_5.out ((t451.length : Int) : Int) zD zD
       (try simp only [Go.IntWalk.toNatUp] at hy20_ hz20_)
       have HP20 := Kd.R_putg HO_5.out ((t451.length : Int) : Int) ((x6_1) % 4294967296)
       go_wp2_with (first | ((with_reducible refine gate_store (t := 37) (p := 59) rfl ?_); refine store_event (t := 37) (p := 59) (v := ?vo_w21) (w1 := (wr.setCell ⟨go18, ((t451.length : Int) : Int).toNat, none⟩ (.int .u32 ((x6_1) % 4294967296)))) ?hg ?ho ?hn ?hr ?_; (case ho => rfl); (case hg => rfl); (case hn => rfl); (case hr => first | (go_simp; done) | (go_simp; rfl)); intro w21 hw; have hg : wr.grownBy w21 (some go18) := (by rw [hw]; exact HP20.2); have hp_ : Kd.R (Kd.int .u32) 37 w21 w.heap.size (fun _ => True) (.slice (some ⟨go18, 0, none⟩) x5_1.length co18) y460 := (by rw [hw, Ny460.out]; exact HP20.1); clear HP20; replace HO_0 := zA (Kd.V_afterv (v := (.slice (some ⟨go18, 0, none⟩) x5_1.length co18)) (v1 := (.slice (some ⟨go18, 0, none⟩) x5_1.length co18)) (ok := (fun _ => True)) (zVM HO_0.out (fun _ hk => ⟨trivial, hk⟩)) hg (.inl rfl)); replace HO_5 := zA (hp_); replace HB := zA ((by rw [hw]; exact below_set (HB.out) GB18.out : Below w.heap.size w w21)); clear hg hw hp_) | ((with_reducible refine gate_callee (f := 71) rfl ?_); refine goesL_ (some 61) rfl rfl Tryd.func71 zk rfl #[.slice (some ⟨go18, 0, none⟩) x5_1.length co18] rfl zX ?_; (with_reducible refine (bignat_trimO.calls k1 (fun k_ => some k_ = (.slice (some ⟨go18, 0, none⟩) x5_1.length co18 : Value).ownBlock) (.slice (some ⟨go18, 0, none⟩) x5_1.length co18) y460 t461 w _ ?side1 ?side2 A19.out).mono ?_); (case side1 => repeat (first | (with_reducible first | exact HB.out | apply below_alloc | apply pw_below_drewN | apply below_drew1) | exact HB.out)); (case side2 => exact Kd.R_tight rfl HO_5.out); rintro e w22 ⟨v462, rfl, ho0, hb, hkp⟩; refine ⟨_, rfl, ?_⟩; replace HO_0 := zA (Kd.V_mono (ok' := fun k_ => some k_ ≠ (v462 : Value).ownBlock) (Kd.V_keptB (HO_0.out) hkp (fun k_ hk_ hs_ => (hk_.2) hs_)) (fun k_ hk_ => fun e_ => Or.elim (ho0.1 k_ e_.symm) (fun hs_ => hk_.2.1 hs_) (fun hn_ => Nat.not_le.2 hk_.2.2 hn_))); have HO463 := zA (Kd.R_mono (ok' := fun k_ => True) ho0 (fun k_ hk_ => trivial)); replace HB := zA (hb); clear HO_5; (try clear hkp)))
       go_ret
       exact ⟨_, by first | rfl | (simp [errW_none, errW_some] <;> rfl) | (simp only [← hji6]; first | rfl | (simp [errW_none, errW_some] <;> rfl)) | (simp [*, errW_none, errW_some] <;> rfl), zR HO463.out, zH⟩
      rw [if_neg c17] at H
      cases H
     rw [if_neg c16] at H
     cases H
  rw [if_neg c8] at H
  cases H
 rw [if_neg c7] at H
 cases H

def bignat_Sub.l0 : Nat → List Int → List Int → List Int → Int → Int → Int → Option (List Int × Bool)
 | 0, _, _, _, _, _, _ => none
 | k + 1, x0, x1, x6, x7, x22, x23 => if x23 < x22 then (if 0 ≤ x23 then (if x23 < (x0.length : Int) then (if x23 < (x1.length : Int) then (if x23 < (x6.length : Int) then (bignat_Sub.l0 k x0 x1 (x6.set (x23 : Int).toNat ((IntKind.u64.wrap ((IntKind.u64.wrap ((IntKind.u64.wrap (rd x0 x23)) - x7)) - (IntKind.u64.wrap (rd x1 x23)))) % 4294967296)) ((IntKind.u64.wrap ((IntKind.u64.wrap ((IntKind.u64.wrap (rd x0 x23)) - x7)) - (IntKind.u64.wrap (rd x1 x23)))) / 9223372036854775808) x22 (wrap64 (x23 + 1))) else (none)) else (if x23 < (x6.length : Int) then (bignat_Sub.l0 k x0 x1 (x6.set (x23 : Int).toNat ((IntKind.u64.wrap ((IntKind.u64.wrap (rd x0 x23)) - x7)) % 4294967296)) ((IntKind.u64.wrap ((IntKind.u64.wrap (rd x0 x23)) - x7)) / 9223372036854775808) x22 (wrap64 (x23 + 1))) else (none))) else (none)) else (none)) else ((bignat_trim.f k x6).bind fun t478 => (some (t478, true)))
def bignat_Sub.f (k : Nat) (l0 : List Int) (l1 : List Int) : Option (List Int × Bool) := (bignat_trim.f k l0).bind fun t464 => ((bignat_trim.f k l1).bind fun t467 => ((bignat_Cmp.f k t464 t467).bind fun t470 => (if t470 < 0 then (none) else (if 0 ≤ (t464.length : Int) then (if ((t464.length : Int) : Int).toNat ≤ 70368744177664 then (bignat_Sub.l0 k t464 t467 (List.replicate ((t464.length : Int) : Int).toNat 0) 0 (t464.length : Int) 0) else (none)) else (none)))))
theorem bignat_Sub.mono_l : ∀ k, (∀ y0 y1 y2 y3 y4 y5, LeO (bignat_Sub.l0 k y0 y1 y2 y3 y4 y5) (bignat_Sub.l0 (k + 1) y0 y1 y2 y3 y4 y5))
 | 0 => fun _ _ _ _ _ _ r h => by simp [bignat_Sub.l0] at h
 | k + 1 => by
  have ih0 := bignat_Sub.mono_l k
  intro y0 y1 y2 y3 y4 y5
  unfold bignat_Sub.l0
  exact zm3 ih0 bignat_Cmp.mono bignat_trim.mono
theorem bignat_Sub.mono : ∀ a0 a1 k, LeO (bignat_Sub.f k a0 a1) (bignat_Sub.f (k + 1) a0 a1) := by
 intro a0 a1 k
 have ih0 := bignat_Sub.mono_l k
 unfold bignat_Sub.f
 exact zm3 ih0 bignat_Cmp.mono bignat_trim.mono
set_option maxHeartbeats 8000000 in
set_option maxRecDepth 100000 in
theorem bignat_Sub.calls (k : Nat) (A0 : Option Addr) (c0 : Nat) (l0 : List Int) (A1 : Option Addr) (c1 : Nat) (l1 : List Int) (r1 : List Int) (r2 : Bool) (w : World) (hr0 : Kd.C (Kd.int .u32) w A0 l0.length l0) (hc0 : l0.length ≤ c0) (hr1 : Kd.C (Kd.int .u32) w A1 l1.length l1) (hc1 : l1.length ≤ c1) (h : bignat_Sub.f k l0 l1 = some (r1, r2)) :
 Calls Tryd.prog 69 #[.slice A0 l0.length c0, .slice A1 l1.length c1] w fun e w' => ∃ v0_ : Value, e = .returned (.tuple #[v0_, .bool r2]) ∧ Kd.R (Kd.int .u32) 37 w' w.heap.size (fun _ => True) v0_ r1 ∧ Below w.heap.size w w' := by
 have HR0 := zA hr0
 have HC0 := zA hc0
 clear hr0 hc0
 have HR1 := zA hr1
 have HC1 := zA hc1
 clear hr1 hc1
 have HB := zA (Below.refl w.heap.size w)
 have H : ((bignat_trim.f k l0).bind fun t464 => ((bignat_trim.f k l1).bind fun t467 => ((bignat_Cmp.f k t464 t467).bind fun t470 => (if t470 < 0 then (none) else (if 0 ≤ (t464.length : Int) then (if ((t464.length : Int) : Int).toNat ≤ 70368744177664 then (bignat_Sub.l0 k t464 t467 (List.replicate ((t464.length : Int) : Int).toNat 0) 0 (t464.length : Int) 0) else (none)) else (none)))))) = some (r1, r2) := h
 clear h
 obtain ⟨t464, A30, H⟩ := zi H
 replace H : ((bignat_trim.f k l1).bind fun t467 => ((bignat_Cmp.f k t464 t467).bind fun t470 => (if t470 < 0 then (none) else (if 0 ≤ (t464.length : Int) then (if ((t464.length : Int) : Int).toNat ≤ 70368744177664 then (bignat_Sub.l0 k t464 t467 (List.replicate ((t464.length : Int) : Int).toNat 0) 0 (t464.length : Int) 0) else (none)) else (none))))) = some (r1, r2) := H
 have A3 := zA A30
 clear A30
 obtain ⟨t467, A40, H⟩ := zi H
 replace H : ((bignat_Cmp.f k t464 t467).bind fun t470 => (if t470 < 0 then (none) else (if 0 ≤ (t464.length : Int) then (if ((t464.length : Int) : Int).toNat ≤ 70368744177664 then (bignat_Sub.l0 k t464 t467 (List.replicate ((t464.length : Int) : Int).toNat 0) 0 (t464.length : Int) 0) else (none)) else (none)))) = some (r1, r2) := H
 have A4 := zA A40
 clear A40
 obtain ⟨t470, A50, H⟩ := zi H
 replace H : (if t470 < 0 then (none) else (if 0 ≤ (t464.length : Int) then (if ((t464.length : Int) : Int).toNat ≤ 70368744177664 then (bignat_Sub.l0 k t464 t467 (List.replicate ((t464.length : Int) : Int).toNat 0) 0 (t464.length : Int) 0) else (none)) else (none))) = some (r1, r2) := H
 have A5 := zA A50
 clear A50
 by_cases c6 : t470 < 0
 ·
  rw [if_pos c6] at H
  cases H
 rw [if_neg c6] at H
 have c6b0 := decide_eq_false c6
 clear c6
 by_cases c7 : 0 ≤ (t464.length : Int)
 ·
  rw [if_pos c7] at H
  have c7b0 := eq_true c7
  have c7b1 := decide_eq_true c7
  clear c7
  by_cases c8 : ((t464.length : Int) : Int).toNat ≤ 70368744177664
  ·
   rw [if_pos c8] at H
   have c8b0 := eq_true c8
   have c8b1 := decide_eq_true c8
   clear c8
   obtain ⟨y471, hy471⟩ : ∃ y_ : List Int, y_ = (List.replicate ((t464.length : Int) : Int).toNat 0) := ⟨_, rfl⟩
   replace H : (bignat_Sub.l0 k t464 t467 y471 0 (t464.length : Int) 0) = some (r1, r2) := by first | (rw [hy471]; with_reducible exact H) | (have H2_ := (Option.bind_some _ _).symm.trans H; rw [hy471]; with_reducible exact H2_) | (have H2_ := (Option.bind_some _ _).symm.trans H; with_reducible exact H2_) | with_reducible exact H | (rw [hy471]; exact H) | exact H
   have Ny471 := zA hy471
   clear hy471
   have H' := zA H
   clear H
   go_enter Tryd.func69, Tryd.ntmps69
   go_wp2_with (first | ((with_reducible refine gate_callee (f := 71) rfl ?_); refine goesL_ (some 11) rfl rfl Tryd.func71 zk rfl #[.slice A0 l0.length c0] rfl zX ?_; (with_reducible refine (bignat_trim.calls k (fun k_ => k_ < w.heap.size) _ _ l0 t464 _ ?side1 A3.out).mono ?_); (case side1 => exact Kd.V_mk HC0.out (Kd.F_below (Kd.C_F (Kd.heap_int .u32) HR0.out) (zb HB rfl))); rintro e w9 ⟨v465, rfl, ho0, hb⟩; refine ⟨_, rfl, ?_⟩; have HO466 := zA (Kd.V_lower (Kd.V_mono (ok' := fun k_ => True) ho0 (fun k_ hk_ => trivial)) (below_size (zb HB rfl))); replace HB := zbb HB hb rfl) | ((with_reducible refine gate_callee (f := 71) rfl ?_); refine goesL_ (some 13) rfl rfl Tryd.func71 zk rfl #[.slice A1 l1.length c1] rfl zX ?_; (with_reducible refine (bignat_trim.calls k (fun k_ => k_ < w.heap.size) _ _ l1 t467 _ ?side1 A4.out).mono ?_); (case side1 => exact Kd.V_mk HC1.out (Kd.F_below (Kd.C_F (Kd.heap_int .u32) HR1.out) (zb HB rfl))); rintro e w10 ⟨v468, rfl, ho0, hb⟩; refine ⟨_, rfl, ?_⟩; replace HO466 := zA (Kd.V_below (zv HO466 rfl) hb); have HO469 := zA (Kd.V_lower (Kd.V_mono (ok' := fun k_ => True) ho0 (fun k_ hk_ => trivial)) (below_size (zb HB rfl))); replace HB := zbb HB hb rfl; obtain ⟨Ao11, co11, eo11⟩ := Kd.V_slice HO466.out; subst eo11; obtain ⟨Ao12, co12, eo12⟩ := Kd.V_slice HO469.out; subst eo12) | ((with_reducible refine gate_callee (f := 67) rfl ?_); refine goesL_ (some 16) rfl rfl Tryd.func67 zk rfl #[.slice Ao11 t464.length co11, .slice Ao12 t467.length co12] rfl zX ?_; (with_reducible refine (bignat_Cmp.calls k _ _ t464 _ _ t467 t470 _ ?side1 ?side2 ?side3 ?side4 A5.out).mono ?_); (case side1 => exact zC (Kd.V_reads' HO466.out).2.2); (case side2 => exact (Kd.V_reads' HO466.out).2.1); (case side3 => exact zC (Kd.V_reads' HO469.out).2.2); (case side4 => exact (Kd.V_reads' HO469.out).2.1); rintro e w13 ⟨rfl, hb⟩; refine ⟨_, rfl, ?_⟩; replace HO466 := zA (Kd.V_below (zv HO466 rfl) hb); replace HO469 := zA (Kd.V_below (zv HO469 rfl) hb); replace HB := zbb HB hb rfl) | ((with_reducible refine gate_dst (N := 20) rfl ?_); refine Kd.R_make (Kd.int .u32) _ 37 rfl (N := 20) rfl 23 _ _ rfl (t464.length : Int) rfl rfl Tryd.underlying23 (.int .u32 0) 4 info37 rfl (by decide) (by omega) 0 (ok := fun _ => True) (okp := fun _ => True) rfl (fun _ hk => hk) trivial zD (Nat.le_trans (Nat.mul_le_mul_right _ (zD : (t464.length : Int).toNat ≤ 70368744177664)) (by omega)) (Below.refl _ _) (Nat.le_refl _) ?_; intro v472 w14 ho15 hb hg_ hnew_; clear hg_ hnew_; (first | rw [← Ny471.out] at ho15 | (simp only [Int.reduceToNat] at ho15; rw [← Ny471.out] at ho15)); replace HO466 := zA (Kd.V_elder' (zv HO466 rfl) (Kd.R_base ho15) hb); replace HO469 := zA (Kd.V_elder' (zv HO469 rfl) (Kd.R_base ho15) hb); have HO473 := zA (Kd.R_lower ho15 (below_size (zb HB rfl))); replace HB := zbb HB hb rfl; clear hb ho15))
   go_loopg [7, 23] k (fun kq v7 v23 w' => ∃ (x6_1 : List Int) (x7_1 : Int) (x23_1 : Int), v7 = .int .u64 x7_1 ∧ v23 = .int .i64 x23_1 ∧ Aside0 (bignat_Sub.l0 kq t464 t467 x6_1 x7_1 (t464.length : Int) x23_1 = some (r1, r2)) ∧ Aside0 (kq ≤ k) ∧ Aside0 (Kd.V (Kd.int .u32) 37 w' w.heap.size (fun k_ => some k_ ≠ (v472 : Value).ownBlock) (.slice Ao11 t464.length co11) t464) ∧ Aside0 (Kd.V (Kd.int .u32) 37 w' w.heap.size (fun k_ => some k_ ≠ (v472 : Value).ownBlock) (.slice Ao12 t467.length co12) t467) ∧ Aside0 (Kd.R (Kd.int .u32) 37 w' w.heap.size (fun _ => True) v472 x6_1) ∧ Aside0 (Below w.heap.size w w'))
   case atStart => exact ⟨(y471), (0), (0), zS, zS, H', ⟨Nat.le_refl _⟩, ⟨zVM HO466.out (fun _ hk => hk.2)⟩, ⟨zVM HO469.out (fun _ hk => hk.2)⟩, ⟨zR HO473.out⟩, ⟨zH⟩⟩
   case round =>
    clear H'
    try clear c1
    try clear p2
    try clear c6
    try clear c6b0
    try clear c7
    try clear c7b0
    try clear c7b1
    try clear c8
    try clear c8b0
    try clear c8b1
    obtain ⟨x6_1, x7_1, x23_1, rfl, rfl, HA, HK1, HO_0, HO_1, HO_6, HB⟩ := hrel
    cases gk with
    | zero => exact absurd HA.out (by simp [bignat_Sub.l0])
    | succ k1 =>
     have H := HA.out
     clear HA
     simp only [bignat_Sub.l0] at H
     by_cases c16 : x23_1 < (t464.length : Int)
     ·
      rw [if_pos c16] at H
      have c16b0 := decide_eq_true c16
      clear c16
      by_cases c17 : 0 ≤ x23_1
      ·
       rw [if_pos c17] at H
       have c17b0 := decide_eq_true c17
       clear c17
       by_cases c18 : x23_1 < (t464.length : Int)
       ·
        rw [if_pos c18] at H
        have c18b0 := decide_eq_true c18
        clear c18
        by_cases c19 : x23_1 < (t467.length : Int)
        ·
         rw [if_pos c19] at H
         have c19b0 := decide_eq_true c19
         clear c19
         by_cases c20 : x23_1 < (x6_1.length : Int)
         ·
          rw [if_pos c20] at H
          have c20b0 := decide_eq_true c20
          clear c20
          obtain ⟨y476, hy476⟩ : ∃ y_ : List Int, y_ = (x6_1.set (x23_1 : Int).toNat ((IntKind.u64.wrap ((IntKind.u64.wrap ((IntKind.u64.wrap (rd t464 x23_1)) - x7_1)) - (IntKind.u64.wrap (rd t467 x23_1)))) % 4294967296)) := ⟨_, rfl⟩
          replace H : (bignat_Sub.l0 k1 t464 t467 y476 ((IntKind.u64.wrap ((IntKind.u64.wrap ((IntKind.u64.wrap (rd t464 x23_1)) - x7_1)) - (IntKind.u64.wrap (rd t467 x23_1)))) / 9223372036854775808) (t464.length : Int) (wrap64 (x23_1 + 1))) = some (r1, r2) := by first | (rw [hy476]; with_reducible exact H) | (have H2_ := (Option.bind_some _ _).symm.trans H; rw [hy476]; with_reducible exact H2_) | (have H2_ := (Option.bind_some _ _).symm.trans H; with_reducible exact H2_) | with_reducible exact H | (rw [hy476]; exact H) | exact H
          have Ny476 := zA hy476
          clear hy476
          have H' := zA H
          clear H
          have p474 : 0 ≤ (x23_1 : Int) := zD
          have q474 : x23_1 < (t464.length : Int) := zD
          obtain ⟨ad474, e474, hx474_0⟩ := Kd.at_int (Kd.V_reads' HO_0.out).2.2 x23_1 p474 q474
          cases e474
          replace p474 := eq_true p474
          replace q474 := eq_true q474
          have p475 : 0 ≤ (x23_1 : Int) := zD
          have q475 : x23_1 < (t467.length : Int) := zD
          obtain ⟨ad475, e475, hx475_0⟩ := Kd.at_int (Kd.V_reads' HO_1.out).2.2 x23_1 p475 q475
          cases e475
          replace p475 := eq_true p475
          replace q475 := eq_true q475
          have p21 : 0 ≤ (x23_1 : Int) := zD
          have q21 : (x23_1 : Int) < ((x6_1.length : Int) : Int) := zD
          obtain ⟨go21, co21, eo21, gb21, gl21, cl21, HG21⟩ := Kd.R_form HO_6.out (by omega)
          (first | cases eo21 | (injection eo21 with ea_ en_ ec_; (first | subst ea_ | (injection ea_ with ea_; subst ea_)); subst ec_; clear en_))
          have GB21 := zA gb21
          have GG21 := zA HG21
          clear gb21 gl21 HG21
          obtain ⟨hx21_0, hf21_0⟩ := Kd.R_celln 0 HO_6.out (x23_1 : Int) p21 q21
          replace p21 := eq_true p21
          replace q21 := eq_true q21
          obtain ⟨hy22_, hz22_⟩ := Kd.R_celln 0 HO_6.out (x23_1 : Int) zD zD
          have HP22 := Kd.R_putg HO_6.out (x23_1 : Int) ((IntKind.u64.wrap ((IntKind.u64.wrap ((IntKind.u64.wrap (rd t464 x23_1)) - x7_1)) - (IntKind.u64.wrap (rd t467 x23_1)))) % 4294967296)
          go_wp2_with (first | ((with_reducible refine gate_store (t := 37) (p := 48) rfl ?_); refine store_event (t := 37) (p := 48) (v := ?vo_w23) (w1 := (wr.setCell ⟨go21, (x23_1 : Int).toNat, none⟩ (.int .u32 ((IntKind.u64.wrap ((IntKind.u64.wrap ((IntKind.u64.wrap (rd t464 x23_1)) - x7_1)) - (IntKind.u64.wrap (rd t467 x23_1)))) % 4294967296)))) ?hg ?ho ?hn ?hr ?_; (case ho => rfl); (case hg => rfl); (case hn => rfl); (case hr => first | (go_simp; done) | (go_simp; rfl)); intro w23 hw; have hg : wr.grownBy w23 (some go21) := (by rw [hw]; exact HP22.2); have hp_ : Kd.R (Kd.int .u32) 37 w23 w.heap.size (fun _ => True) (.slice (some ⟨go21, 0, none⟩) x6_1.length co21) y476 := (by rw [hw, Ny476.out]; exact HP22.1); clear HP22; replace HO_0 := zA (Kd.V_afterv (v := (.slice (some ⟨go21, 0, none⟩) x6_1.length co21)) (v1 := (.slice (some ⟨go21, 0, none⟩) x6_1.length co21)) (ok := (fun _ => True)) (zVM HO_0.out (fun _ hk => ⟨trivial, hk⟩)) hg (.inl rfl)); replace HO_1 := zA (Kd.V_afterv (v := (.slice (some ⟨go21, 0, none⟩) x6_1.length co21)) (v1 := (.slice (some ⟨go21, 0, none⟩) x6_1.length co21)) (ok := (fun _ => True)) (zVM HO_1.out (fun _ hk => ⟨trivial, hk⟩)) hg (.inl rfl)); replace HO_6 := zA (hp_); replace HB := zA ((by rw [hw]; exact below_set (HB.out) GB21.out : Below w.heap.size w w23)); clear hg hw hp_))
          go_roundg k1
          case measure => have := HK1.out; omega
          case rel => exact ⟨(y476), ((IntKind.u64.wrap ((IntKind.u64.wrap ((IntKind.u64.wrap (rd t464 x23_1)) - x7_1)) - (IntKind.u64.wrap (rd t467 x23_1)))) / 9223372036854775808), (wrap64 (x23_1 + 1)), zS, zS, H', ⟨by have := HK1.out; omega⟩, ⟨zVM HO_0.out (fun _ hk => hk.2)⟩, ⟨zVM HO_1.out (fun _ hk => hk.2)⟩, ⟨zR HO_6.out⟩, ⟨zH⟩⟩
         rw [if_neg c20] at H
         cases H
        rw [if_neg c19] at H
        have c19b0 := decide_eq_false c19
        clear c19
        by_cases c24 : x23_1 < (x6_1.length : Int)
        ·
         rw [if_pos c24] at H
         have c24b0 := decide_eq_true c24
         clear c24
         obtain ⟨y477, hy477⟩ : ∃ y_ : List Int, y_ = (x6_1.set (x23_1 : Int).toNat ((IntKind.u64.wrap ((IntKind.u64.wrap (rd t464 x23_1)) - x7_1)) % 4294967296)) := ⟨_, rfl⟩
         replace H : (bignat_Sub.l0 k1 t464 t467 y477 ((IntKind.u64.wrap ((IntKind.u64.wrap (rd t464 x23_1)) - x7_1)) / 9223372036854775808) (t464.length : Int) (wrap64 (x23_1 + 1))) = some (r1, r2) := by first | (rw [hy477]; with_reducible exact H) | (have H2_ := (Option.bind_some _ _).symm.trans H; rw [hy477]; with_reducible exact H2_) | (have H2_ := (Option.bind_some _ _).symm.trans H; with_reducible exact H2_) | with_reducible exact H | (rw [hy477]; exact H) | exact H
         have Ny477 := zA hy477
         clear hy477
         have H' := zA H
         clear H
         have p474 : 0 ≤ (x23_1 : Int) := zD
         have q474 : x23_1 < (t464.length : Int) := zD
         obtain ⟨ad474, e474, hx474_0⟩ := Kd.at_int (Kd.V_reads' HO_0.out).2.2 x23_1 p474 q474
         cases e474
         replace p474 := eq_true p474
         replace q474 := eq_true q474
         have p25 : 0 ≤ (x23_1 : Int) := zD
         have q25 : (x23_1 : Int) < ((x6_1.length : Int) : Int) := zD
         obtain ⟨go25, co25, eo25, gb25, gl25, cl25, HG25⟩ := Kd.R_form HO_6.out (by omega)
         (first | cases eo25 | (injection eo25 with ea_ en_ ec_; (first | subst ea_ | (injection ea_ with ea_; subst ea_)); subst ec_; clear en_))
         have GB25 := zA gb25
         have GG25 := zA HG25
         clear gb25 gl25 HG25
         obtain ⟨hx25_0, hf25_0⟩ := Kd.R_celln 0 HO_6.out (x23_1 : Int) p25 q25
         replace p25 := eq_true p25
         replace q25 := eq_true q25
         obtain ⟨hy26_, hz26_⟩ := Kd.R_celln 0 HO_6.out (x23_1 : Int) zD zD
         have HP26 := Kd.R_putg HO_6.out (x23_1 : Int) ((IntKind.u64.wrap ((IntKind.u64.wrap (rd t464 x23_1)) - x7_1)) % 4294967296)
         go_wp2_with (first | ((with_reducible refine gate_store (t := 37) (p := 48) rfl ?_); refine store_event (t := 37) (p := 48) (v := ?vo_w27) (w1 := (wr.setCell ⟨go25, (x23_1 : Int).toNat, none⟩ (.int .u32 ((IntKind.u64.wrap ((IntKind.u64.wrap (rd t464 x23_1)) - x7_1)) % 4294967296)))) ?hg ?ho ?hn ?hr ?_; (case ho => rfl); (case hg => rfl); (case hn => rfl); (case hr => first | (go_simp; done) | (go_simp; rfl)); intro w27 hw; have hg : wr.grownBy w27 (some go25) := (by rw [hw]; exact HP26.2); have hp_ : Kd.R (Kd.int .u32) 37 w27 w.heap.size (fun _ => True) (.slice (some ⟨go25, 0, none⟩) x6_1.length co25) y477 := (by rw [hw, Ny477.out]; exact HP26.1); clear HP26; replace HO_0 := zA (Kd.V_afterv (v := (.slice (some ⟨go25, 0, none⟩) x6_1.length co25)) (v1 := (.slice (some ⟨go25, 0, none⟩) x6_1.length co25)) (ok := (fun _ => True)) (zVM HO_0.out (fun _ hk => ⟨trivial, hk⟩)) hg (.inl rfl)); replace HO_1 := zA (Kd.V_afterv (v := (.slice (some ⟨go25, 0, none⟩) x6_1.length co25)) (v1 := (.slice (some ⟨go25, 0, none⟩) x6_1.length co25)) (ok := (fun _ => True)) (zVM HO_1.out (fun _ hk => ⟨trivial, hk⟩)) hg (.inl rfl)); replace HO_6 := zA (hp_); replace HB := zA ((by rw [hw]; exact below_set (HB.out) GB25.out : Below w.heap.size w w27)); clear hg hw hp_))
         go_roundg k1
         case measure => have := HK1.out; omega
         case rel => exact ⟨(y477), ((IntKind.u64.wrap ((IntKind.u64.wrap (rd t464 x23_1)) - x7_1)) / 9223372036854775808), (wrap64 (x23_1 + 1)), zS, zS, H', ⟨by have := HK1.out; omega⟩, ⟨zVM HO_0.out (fun _ hk => hk.2)⟩, ⟨zVM HO_1.out (fun _ hk => hk.2)⟩, ⟨zR HO_6.out⟩, ⟨zH⟩⟩
        rw [if_neg c24] at H
        cases H
       rw [if_neg c18] at H
       cases H
      rw [if_neg c17] at H
      cases H
     rw [if_neg c16] at H
     have c16b0 := decide_eq_false c16
     clear c16
     obtain ⟨t478, A280, H⟩ := zi H
     replace H : (some (t478, true)) = some (r1, r2) := H
     have A28 := zA A280
     clear A280
     simp only [Option.some.injEq, Prod.mk.injEq] at H
     obtain ⟨rfl, rfl⟩ := H
     obtain ⟨Ao29, co29, eo29⟩ := Kd.R_slice HO_6.out
     subst eo29
     go_wp2_with (first | ((with_reducible refine gate_callee (f := 71) rfl ?_); refine goesL_ (some 53) rfl rfl Tryd.func71 zk rfl #[.slice Ao29 x6_1.length co29] rfl zX ?_; (with_reducible refine (bignat_trimO.calls k1 (fun k_ => some k_ = (.slice Ao29 x6_1.length co29 : Value).ownBlock) (.slice Ao29 x6_1.length co29) x6_1 t478 w _ ?side1 ?side2 A28.out).mono ?_); (case side1 => repeat (first | (with_reducible first | exact HB.out | apply below_alloc | apply pw_below_drewN | apply below_drew1) | exact HB.out)); (case side2 => exact Kd.R_tight rfl HO_6.out); rintro e w30 ⟨v479, rfl, ho0, hb, hkp⟩; refine ⟨_, rfl, ?_⟩; replace HO_0 := zA (Kd.V_mono (ok' := fun k_ => some k_ ≠ (v479 : Value).ownBlock) (Kd.V_keptB (HO_0.out) hkp (fun k_ hk_ hs_ => (hk_) hs_)) (fun k_ hk_ => fun e_ => Or.elim (ho0.1 k_ e_.symm) (fun hs_ => hk_.2.1 hs_) (fun hn_ => Nat.not_le.2 hk_.2.2 hn_))); replace HO_1 := zA (Kd.V_mono (ok' := fun k_ => some k_ ≠ (v479 : Value).ownBlock) (Kd.V_keptB (HO_1.out) hkp (fun k_ hk_ hs_ => (hk_) hs_)) (fun k_ hk_ => fun e_ => Or.elim (ho0.1 k_ e_.symm) (fun hs_ => hk_.2.1 hs_) (fun hn_ => Nat.not_le.2 hk_.2.2 hn_))); have HO480 := zA (Kd.R_mono (ok' := fun k_ => True) ho0 (fun k_ hk_ => trivial)); replace HB := zA (hb); clear HO_6; (try clear hkp)))
     go_ret2
     exact ⟨_, zE, zR HO480.out, zH⟩
  rw [if_neg c8] at H
  cases H
 rw [if_neg c7] at H
 cases H

def rational_Add.j0 : Nat → Bool → Bool → List Int → List Int → List Int → Option (Bool × List Int × List Int)
 | 0, _, _, _, _, _ => none
 | k + 1, x5, x8, x11, x12, x13 => if (x5 == x8) = true then ((bignat_Add.f k x11 x12).bind fun t508 => ((rational_reduce.f k x5 t508 x13).bind fun bt511 => (some (bt511.1, bt511.2.1, bt511.2.2)))) else ((bignat_Sub.f k x11 x12).bind fun bt518 => (if bt518.2 = true then ((rational_reduce.f k x5 bt518.1 x13).bind fun bt522 => (some (bt522.1, bt522.2.1, bt522.2.2))) else (none)))
def rational_Add.f (k : Nat) (a0_0 : Bool) (l0_1 : List Int) (l0_2 : List Int) (a1_0 : Bool) (l1_1 : List Int) (l1_2 : List Int) : Option (Bool × List Int × List Int) := (rational_parts.f k a0_0 l0_1 l0_2).bind fun bt484 => ((rational_parts.f k a1_0 l1_1 l1_2).bind fun bt491 => ((bignat_Cmp.f k bt484.2.2 bt491.2.2).bind fun t498 => (if t498 = 0 then (rational_Add.j0 k bt484.1 bt491.1 bt484.2.1 bt491.2.1 bt484.2.2) else ((bignat_Mul.f k bt484.2.1 bt491.2.2).bind fun t499 => ((bignat_Mul.f k bt491.2.1 bt484.2.2).bind fun t502 => ((bignat_Mul.f k bt484.2.2 bt491.2.2).bind fun t505 => (rational_Add.j0 k bt484.1 bt491.1 t499 t502 t505)))))))
theorem rational_Add.mono_l : ∀ k, (∀ y0 y1 y2 y3 y4, LeO (rational_Add.j0 k y0 y1 y2 y3 y4) (rational_Add.j0 (k + 1) y0 y1 y2 y3 y4))
 | 0 => fun _ _ _ _ _ r h => by simp [rational_Add.j0] at h
 | k + 1 => by
  have ih0 := rational_Add.mono_l k
  intro y0 y1 y2 y3 y4
  unfold rational_Add.j0
  exact zm7 ih0 bignat_Add.mono bignat_Cmp.mono bignat_Mul.mono bignat_Sub.mono rational_parts.mono rational_reduce.mono
theorem rational_Add.mono : ∀ a0 a1 a2 a3 a4 a5 k, LeO (rational_Add.f k a0 a1 a2 a3 a4 a5) (rational_Add.f (k + 1) a0 a1 a2 a3 a4 a5) := by
 intro a0 a1 a2 a3 a4 a5 k
 have ih0 := rational_Add.mono_l k
 unfold rational_Add.f
 exact zm7 ih0 bignat_Add.mono bignat_Cmp.mono bignat_Mul.mono bignat_Sub.mono rational_parts.mono rational_reduce.mono
set_option maxHeartbeats 8000000 in
set_option maxRecDepth 100000 in
theorem rational_Add.calls (k : Nat) (a0_0 : Bool) (A0_1 : Option Addr) (c0_1 : Nat) (l0_1 : List Int) (A0_2 : Option Addr) (c0_2 : Nat) (l0_2 : List Int) (a1_0 : Bool) (A1_1 : Option Addr) (c1_1 : Nat) (l1_1 : List Int) (A1_2 : Option Addr) (c1_2 : Nat) (l1_2 : List Int) (r1 : Bool) (r2 : List Int) (r3 : List Int) (w : World) (hr0_1 : Kd.C (Kd.int .u32) w A0_1 l0_1.length l0_1) (hc0_1 : l0_1.length ≤ c0_1) (hr0_2 : Kd.C (Kd.int .u32) w A0_2 l0_2.length l0_2) (hc0_2 : l0_2.length ≤ c0_2) (hr1_1 : Kd.C (Kd.int .u32) w A1_1 l1_1.length l1_1) (hc1_1 : l1_1.length ≤ c1_1) (hr1_2 : Kd.C (Kd.int .u32) w A1_2 l1_2.length l1_2) (hc1_2 : l1_2.length ≤ c1_2) (h : rational_Add.f k a0_0 l0_1 l0_2 a1_0 l1_1 l1_2 = some (r1, r2, r3)) :
 Calls Tryd.prog 23 #[.agg #[.bool a0_0, .slice A0_1 l0_1.length c0_1, .slice A0_2 l0_2.length c0_2], .agg #[.bool a1_0, .slice A1_1 l1_1.length c1_1, .slice A1_2 l1_2.length c1_2]] w fun e w' => ∃ v1_ v2_ : Value, e = .returned (.agg #[.bool r1, v1_, v2_]) ∧ Kd.R (Kd.int .u32) 37 w' w.heap.size (fun k_ => some k_ ≠ (v2_ : Value).ownBlock) v1_ r2 ∧ Kd.R (Kd.int .u32) 37 w' w.heap.size (fun k_ => some k_ ≠ (v1_ : Value).ownBlock) v2_ r3 ∧ Below w.heap.size w w' := by
 have hu25 := Tryd.underlying25
 have HR0_1 := zA hr0_1
 have HC0_1 := zA hc0_1
 clear hr0_1 hc0_1
 have HR0_2 := zA hr0_2
 have HC0_2 := zA hc0_2
 clear hr0_2 hc0_2
 have HR1_1 := zA hr1_1
 have HC1_1 := zA hc1_1
 clear hr1_1 hc1_1
 have HR1_2 := zA hr1_2
 have HC1_2 := zA hc1_2
 clear hr1_2 hc1_2
 have HB := zA (Below.refl w.heap.size w)
 have H : ((rational_parts.f k a0_0 l0_1 l0_2).bind fun bt484 => ((rational_parts.f k a1_0 l1_1 l1_2).bind fun bt491 => ((bignat_Cmp.f k bt484.2.2 bt491.2.2).bind fun t498 => (if t498 = 0 then (rational_Add.j0 k bt484.1 bt491.1 bt484.2.1 bt491.2.1 bt484.2.2) else ((bignat_Mul.f k bt484.2.1 bt491.2.2).bind fun t499 => ((bignat_Mul.f k bt491.2.1 bt484.2.2).bind fun t502 => ((bignat_Mul.f k bt484.2.2 bt491.2.2).bind fun t505 => (rational_Add.j0 k bt484.1 bt491.1 t499 t502 t505)))))))) = some (r1, r2, r3) := h
 clear h
 obtain ⟨⟨t484, t485, t488⟩, A30, H⟩ := zi H
 replace H : ((rational_parts.f k a1_0 l1_1 l1_2).bind fun bt491 => ((bignat_Cmp.f k t488 bt491.2.2).bind fun t498 => (if t498 = 0 then (rational_Add.j0 k t484 bt491.1 t485 bt491.2.1 t488) else ((bignat_Mul.f k t485 bt491.2.2).bind fun t499 => ((bignat_Mul.f k bt491.2.1 t488).bind fun t502 => ((bignat_Mul.f k t488 bt491.2.2).bind fun t505 => (rational_Add.j0 k t484 bt491.1 t499 t502 t505))))))) = some (r1, r2, r3) := H
 have A3 := zA A30
 clear A30
 obtain ⟨⟨t491, t492, t495⟩, A40, H⟩ := zi H
 replace H : ((bignat_Cmp.f k t488 t495).bind fun t498 => (if t498 = 0 then (rational_Add.j0 k t484 t491 t485 t492 t488) else ((bignat_Mul.f k t485 t495).bind fun t499 => ((bignat_Mul.f k t492 t488).bind fun t502 => ((bignat_Mul.f k t488 t495).bind fun t505 => (rational_Add.j0 k t484 t491 t499 t502 t505)))))) = some (r1, r2, r3) := H
 have A4 := zA A40
 clear A40
 obtain ⟨t498, A50, H⟩ := zi H
 replace H : (if t498 = 0 then (rational_Add.j0 k t484 t491 t485 t492 t488) else ((bignat_Mul.f k t485 t495).bind fun t499 => ((bignat_Mul.f k t492 t488).bind fun t502 => ((bignat_Mul.f k t488 t495).bind fun t505 => (rational_Add.j0 k t484 t491 t499 t502 t505))))) = some (r1, r2, r3) := H
 have A5 := zA A50
 clear A50
 have HC6 := zA H
 clear H
 go_enter Tryd.func23, Tryd.ntmps23
 go_upto_if 36 with (first | ((with_reducible refine gate_dst (N := 2) rfl ?_); refine box_event ?hg (N := 2) ?hd (cs := #[.bool a0_0, .slice A0_1 l0_1.length c0_1, .slice A0_2 l0_2.length c0_2]) (t := 25) ?hr ?_; (case hd => rfl); (case hg => rfl); (case hr => first | (go_simp; done) | (go_simp; rfl)); intro gb481 hg w7 hbox hb; have BK481 := zA (hbox); have GW481 := zA ((by rw [hg]; exact (below_size (zb HB rfl)) : w.heap.size ≤ gb481)); have GE481 := zA ((by rw [hg]; exact (below_size (zb HB rfl)) : w.heap.size ≤ gb481)); replace HB := zbb HB hb rfl; clear hb hbox hg) | ((with_reducible refine gate_dst (N := 3) rfl ?_); refine box_event ?hg (N := 3) ?hd (cs := #[.bool a1_0, .slice A1_1 l1_1.length c1_1, .slice A1_2 l1_2.length c1_2]) (t := 25) ?hr ?_; (case hd => rfl); (case hg => rfl); (case hr => first | (go_simp; done) | (go_simp; rfl)); intro gb482 hg w8 hbox hb; have BK482 := zA (hbox); have GW482 := zA ((by rw [hg]; exact (below_size (zb HB rfl)) : w.heap.size ≤ gb482)); have GE482 := zA ((by rw [hg]; exact (below_size (zb HB rfl)) : w.heap.size ≤ gb482)); replace HB := zbb HB hb rfl; have NB481_482 := zA ((by rw [hg]; exact Nat.ne_of_lt (blk_lt BK481.out) : gb481 ≠ gb482)); have NB482_481 := zA ((by rw [hg]; exact Nat.ne_of_gt (blk_lt BK481.out) : gb482 ≠ gb481)); replace BK481 := zkb BK481 hb; clear hb hbox hg) | ((with_reducible refine gate_dst (N := 4) rfl ?_); refine box_event ?hg (N := 4) ?hd (cs := #[.bool false, .slice none 0 0, .slice none 0 0]) (t := 25) ?hr ?_; (case hd => rfl); (case hg => rfl); (case hr => first | (go_simp; done) | (go_simp; rfl)); intro gb483 hg w9 hbox hb; have BK483 := zA (hbox); have GW483 := zA ((by rw [hg]; exact (below_size (zb HB rfl)) : w.heap.size ≤ gb483)); have GE483 := zA ((by rw [hg]; exact (below_size (zb HB rfl)) : w.heap.size ≤ gb483)); replace HB := zbb HB hb rfl; have NB481_483 := zA ((by rw [hg]; exact Nat.ne_of_lt (blk_lt BK481.out) : gb481 ≠ gb483)); have NB483_481 := zA ((by rw [hg]; exact Nat.ne_of_gt (blk_lt BK481.out) : gb483 ≠ gb481)); replace BK481 := zkb BK481 hb; have NB482_483 := zA ((by rw [hg]; exact Nat.ne_of_lt (blk_lt BK482.out) : gb482 ≠ gb483)); have NB483_482 := zA ((by rw [hg]; exact Nat.ne_of_gt (blk_lt BK482.out) : gb483 ≠ gb482)); replace BK482 := zkb BK482 hb; clear hb hbox hg; have hnb10 := NB481_482.out; have hnc10 := NB482_481.out; have hnb11 := NB481_483.out; have hnc11 := NB483_481.out; have hcz12_0 := zc BK481 0 (v := .bool a0_0) rfl; have hcz12_1 := zc BK481 1 (v := .slice A0_1 l0_1.length c0_1) rfl; have hcz12_2 := zc BK481 2 (v := .slice A0_2 l0_2.length c0_2) rfl; have hfz12_0 := zF BK481 0; have hfz12_1 := zF BK481 1; have hfz12_2 := zF BK481 2) | ((with_reducible refine gate_callee (f := 66) rfl ?_); refine goesL_ (some 20) rfl rfl Tryd.func66 zk rfl #[.agg #[.bool a0_0, .slice A0_1 l0_1.length c0_1, .slice A0_2 l0_2.length c0_2]] rfl zX ?_; (with_reducible refine (rational_parts.calls k a0_0 (fun k_ => k_ < w.heap.size) _ _ l0_1 (fun k_ => k_ < w.heap.size) _ _ l0_2 t484 t485 t488 _ ?side1 ?side2 A3.out).mono ?_); (case side1 => exact Kd.V_mk HC0_1.out (Kd.F_below (Kd.C_F (Kd.heap_int .u32) HR0_1.out) (zb HB rfl))); (case side2 => exact Kd.V_mk HC0_2.out (Kd.F_below (Kd.C_F (Kd.heap_int .u32) HR0_2.out) (zb HB rfl))); rintro e w13 ⟨v486, v489, rfl, ho0, ho1, hb⟩; refine ⟨_, rfl, ?_⟩; have HO487 := zA (Kd.V_lower (Kd.V_mono (ok' := fun k_ => k_ ≠ gb481 ∧ k_ ≠ gb482 ∧ k_ ≠ gb483) ho0 (fun k_ hk_ => ⟨Or.elim hk_ (fun hs_ => Or.elim hs_ (fun hs_ => fun e_ => Nat.not_le.2 hs_ (by rw [e_]; exact GW481.out)) (fun hs_ => fun e_ => Nat.not_le.2 hs_ (by rw [e_]; exact GW481.out))) (fun hn_ => (Kd.freshB BK481.out k_ hn_)), Or.elim hk_ (fun hs_ => Or.elim hs_ (fun hs_ => fun e_ => Nat.not_le.2 hs_ (by rw [e_]; exact GW482.out)) (fun hs_ => fun e_ => Nat.not_le.2 hs_ (by rw [e_]; exact GW482.out))) (fun hn_ => (Kd.freshB BK482.out k_ hn_)), Or.elim hk_ (fun hs_ => Or.elim hs_ (fun hs_ => fun e_ => Nat.not_le.2 hs_ (by rw [e_]; exact GW483.out)) (fun hs_ => fun e_ => Nat.not_le.2 hs_ (by rw [e_]; exact GW483.out))) (fun hn_ => (Kd.freshB BK483.out k_ hn_))⟩)) (below_size (zb HB rfl))); have HO490 := zA (Kd.V_lower (Kd.V_mono (ok' := fun k_ => k_ ≠ gb481 ∧ k_ ≠ gb482 ∧ k_ ≠ gb483) ho1 (fun k_ hk_ => ⟨Or.elim hk_ (fun hs_ => Or.elim hs_ (fun hs_ => fun e_ => Nat.not_le.2 hs_ (by rw [e_]; exact GW481.out)) (fun hs_ => fun e_ => Nat.not_le.2 hs_ (by rw [e_]; exact GW481.out))) (fun hn_ => (Kd.freshB BK481.out k_ hn_)), Or.elim hk_ (fun hs_ => Or.elim hs_ (fun hs_ => fun e_ => Nat.not_le.2 hs_ (by rw [e_]; exact GW482.out)) (fun hs_ => fun e_ => Nat.not_le.2 hs_ (by rw [e_]; exact GW482.out))) (fun hn_ => (Kd.freshB BK482.out k_ hn_)), Or.elim hk_ (fun hs_ => Or.elim hs_ (fun hs_ => fun e_ => Nat.not_le.2 hs_ (by rw [e_]; exact GW483.out)) (fun hs_ => fun e_ => Nat.not_le.2 hs_ (by rw [e_]; exact GW483.out))) (fun hn_ => (Kd.freshB BK483.out k_ hn_))⟩)) (below_size (zb HB rfl))); replace BK481 := zkb BK481 hb; replace BK482 := zkb BK482 hb; replace BK483 := zkb BK483 hb; replace HB := zbb HB hb rfl; have hnb14 := NB482_483.out; have hnc14 := NB483_482.out; have hcz15_0 := zc BK482 0 (v := .bool a1_0) rfl; have hcz15_1 := zc BK482 1 (v := .slice A1_1 l1_1.length c1_1) rfl; have hcz15_2 := zc BK482 2 (v := .slice A1_2 l1_2.length c1_2) rfl; have hfz15_0 := zF BK482 0; have hfz15_1 := zF BK482 1; have hfz15_2 := zF BK482 2) | ((with_reducible refine gate_callee (f := 66) rfl ?_); refine goesL_ (some 26) rfl rfl Tryd.func66 zk rfl #[.agg #[.bool a1_0, .slice A1_1 l1_1.length c1_1, .slice A1_2 l1_2.length c1_2]] rfl zX ?_; (with_reducible refine (rational_parts.calls k a1_0 (fun k_ => k_ < w.heap.size) _ _ l1_1 (fun k_ => k_ < w.heap.size) _ _ l1_2 t491 t492 t495 _ ?side1 ?side2 A4.out).mono ?_); (case side1 => exact Kd.V_mk HC1_1.out (Kd.F_below (Kd.C_F (Kd.heap_int .u32) HR1_1.out) (zb HB rfl))); (case side2 => exact Kd.V_mk HC1_2.out (Kd.F_below (Kd.C_F (Kd.heap_int .u32) HR1_2.out) (zb HB rfl))); rintro e w16 ⟨v493, v496, rfl, ho0, ho1, hb⟩; refine ⟨_, rfl, ?_⟩; replace HO487 := zA (Kd.V_below (zv HO487 rfl) hb); replace HO490 := zA (Kd.V_below (zv HO490 rfl) hb); have HO494 := zA (Kd.V_lower (Kd.V_mono (ok' := fun k_ => k_ ≠ gb481 ∧ k_ ≠ gb482 ∧ k_ ≠ gb483) ho0 (fun k_ hk_ => ⟨Or.elim hk_ (fun hs_ => Or.elim hs_ (fun hs_ => fun e_ => Nat.not_le.2 hs_ (by rw [e_]; exact GW481.out)) (fun hs_ => fun e_ => Nat.not_le.2 hs_ (by rw [e_]; exact GW481.out))) (fun hn_ => (Kd.freshB BK481.out k_ hn_)), Or.elim hk_ (fun hs_ => Or.elim hs_ (fun hs_ => fun e_ => Nat.not_le.2 hs_ (by rw [e_]; exact GW482.out)) (fun hs_ => fun e_ => Nat.not_le.2 hs_ (by rw [e_]; exact GW482.out))) (fun hn_ => (Kd.freshB BK482.out k_ hn_)), Or.elim hk_ (fun hs_ => Or.elim hs_ (fun hs_ => fun e_ => Nat.not_le.2 hs_ (by rw [e_]; exact GW483.out)) (fun hs_ => fun e_ => Nat.not_le.2 hs_ (by rw [e_]; exact GW483.out))) (fun hn_ => (Kd.freshB BK483.out k_ hn_))⟩)) (below_size (zb HB rfl))); have HO497 := zA (Kd.V_lower (Kd.V_mono (ok' := fun k_ => k_ ≠ gb481 ∧ k_ ≠ gb482 ∧ k_ ≠ gb483) ho1 (fun k_ hk_ => ⟨Or.elim hk_ (fun hs_ => Or.elim hs_ (fun hs_ => fun e_ => Nat.not_le.2 hs_ (by rw [e_]; exact GW481.out)) (fun hs_ => fun e_ => Nat.not_le.2 hs_ (by rw [e_]; exact GW481.out))) (fun hn_ => (Kd.freshB BK481.out k_ hn_)), Or.elim hk_ (fun hs_ => Or.elim hs_ (fun hs_ => fun e_ => Nat.not_le.2 hs_ (by rw [e_]; exact GW482.out)) (fun hs_ => fun e_ => Nat.not_le.2 hs_ (by rw [e_]; exact GW482.out))) (fun hn_ => (Kd.freshB BK482.out k_ hn_)), Or.elim hk_ (fun hs_ => Or.elim hs_ (fun hs_ => fun e_ => Nat.not_le.2 hs_ (by rw [e_]; exact GW483.out)) (fun hs_ => fun e_ => Nat.not_le.2 hs_ (by rw [e_]; exact GW483.out))) (fun hn_ => (Kd.freshB BK483.out k_ hn_))⟩)) (below_size (zb HB rfl))); replace BK481 := zkb BK481 hb; replace BK482 := zkb BK482 hb; replace BK483 := zkb BK483 hb; replace HB := zbb HB hb rfl; obtain ⟨Ao17, co17, eo17⟩ := Kd.V_slice HO490.out; subst eo17; obtain ⟨Ao18, co18, eo18⟩ := Kd.V_slice HO497.out; subst eo18) | ((with_reducible refine gate_callee (f := 67) rfl ?_); refine goesL_ (some 35) rfl rfl Tryd.func67 zk rfl #[.slice Ao17 t488.length co17, .slice Ao18 t495.length co18] rfl zX ?_; (with_reducible refine (bignat_Cmp.calls k _ _ t488 _ _ t495 t498 _ ?side1 ?side2 ?side3 ?side4 A5.out).mono ?_); (case side1 => exact zC (Kd.V_reads' HO490.out).2.2); (case side2 => exact (Kd.V_reads' HO490.out).2.1); (case side3 => exact zC (Kd.V_reads' HO497.out).2.2); (case side4 => exact (Kd.V_reads' HO497.out).2.1); rintro e w19 ⟨rfl, hb⟩; refine ⟨_, rfl, ?_⟩; replace HO487 := zA (Kd.V_below (zv HO487 rfl) hb); replace HO490 := zA (Kd.V_below (zv HO490 rfl) hb); replace HO494 := zA (Kd.V_below (zv HO494 rfl) hb); replace HO497 := zA (Kd.V_below (zv HO497 rfl) hb); replace BK481 := zkb BK481 hb; replace BK482 := zkb BK482 hb; replace BK483 := zkb BK483 hb; replace HB := zbb HB hb rfl))
 (try simp only [Act.put, List.setIfInBounds_toArray, List.set_cons_zero, List.set_cons_succ])
 go_cut [11, 12, 13] (fun v11 v12 v13 wc => ∃ (kq : Nat) (x11_5 : List Int) (x12_5 : List Int) (x13_5 : List Int), Aside0 (rational_Add.j0 kq t484 t491 x11_5 x12_5 x13_5 = some (r1, r2, r3)) ∧ Aside0 (kq ≤ k) ∧ Aside0 (Kd.V (Kd.int .u32) 37 wc w.heap.size (fun k_ => k_ ≠ gb481 ∧ k_ ≠ gb482 ∧ k_ ≠ gb483) v11 x11_5) ∧ Aside0 (Kd.V (Kd.int .u32) 37 wc w.heap.size (fun k_ => k_ ≠ gb481 ∧ k_ ≠ gb482 ∧ k_ ≠ gb483) v12 x12_5) ∧ Aside0 (Kd.V (Kd.int .u32) 37 wc w.heap.size (fun k_ => k_ ≠ gb481 ∧ k_ ≠ gb482 ∧ k_ ≠ gb483) v13 x13_5) ∧ Aside0 (wc.heap[gb481]? = some (.cells #[.bool a0_0, (.slice A0_1 l0_1.length c0_1), (.slice A0_2 l0_2.length c0_2)] 25 (0, 0))) ∧ Aside0 (wc.heap[gb482]? = some (.cells #[.bool a1_0, (.slice A1_1 l1_1.length c1_1), (.slice A1_2 l1_2.length c1_2)] 25 (0, 0))) ∧ Aside0 (wc.heap[gb483]? = some (.cells #[.bool false, (.slice none 0 0), (.slice none 0 0)] 25 (0, 0))) ∧ Aside0 (Below w.heap.size w wc))
 case first =>
  have H := HC6.out
  clear HC6
  by_cases c20 : t498 = 0
  ·
   rw [if_pos c20] at H
   have c20b0 := beq_iff_eq.mpr c20
   have c20b1 := bne_eq_false_iff_eq.mpr c20
   clear c20
   (first | rw [c20b0] | rw [c20b1] | (simp only [i64_w, i32_w]; rw [c20b0]) | skip)
   have H' := zA H
   clear H
   go_wp2
   go_meet
   case rel => exact ⟨_, (t485), (t492), (t488), H', ⟨by first | omega | exact Nat.le_refl _⟩, ⟨zV HO487.out⟩, ⟨zV HO494.out⟩, ⟨zV HO490.out⟩, ⟨zB BK481.out⟩, ⟨zB BK482.out⟩, ⟨zB BK483.out⟩, ⟨by repeat (first | (with_reducible first | exact HB.out | apply below_alloc | apply pw_below_drewN | apply below_drew1 | refine below_set ?_ GE481.out | refine below_set ?_ GE482.out | refine below_set ?_ GE483.out) | exact HB.out)⟩⟩
  rw [if_neg c20] at H
  have c20b0 := beq_eq_false_iff_ne.mpr c20
  have c20b1 := bne_iff_ne.mpr c20
  (first | rw [c20b0] | rw [c20b1] | (simp only [i64_w, i32_w]; rw [c20b0]) | skip)
  obtain ⟨t499, A210, H⟩ := zi H
  replace H : ((bignat_Mul.f k t492 t488).bind fun t502 => ((bignat_Mul.f k t488 t495).bind fun t505 => (rational_Add.j0 k t484 t491 t499 t502 t505))) = some (r1, r2, r3) := H
  have A21 := zA A210
  clear A210
  obtain ⟨t502, A220, H⟩ := zi H
  replace H : ((bignat_Mul.f k t488 t495).bind fun t505 => (rational_Add.j0 k t484 t491 t499 t502 t505)) = some (r1, r2, r3) := H
  have A22 := zA A220
  clear A220
  obtain ⟨t505, A230, H⟩ := zi H
  replace H : (rational_Add.j0 k t484 t491 t499 t502 t505) = some (r1, r2, r3) := H
  have A23 := zA A230
  clear A230
  have H' := zA H
  clear H
  obtain ⟨Ao24, co24, eo24⟩ := Kd.V_slice HO487.out
  subst eo24
  go_wp2_with (first | ((with_reducible refine gate_callee (f := 33) rfl ?_); refine goesL_ (some 39) rfl rfl Tryd.func33 zk rfl #[.slice Ao24 t485.length co24, .slice Ao18 t495.length co18] rfl zX ?_; (with_reducible refine (bignat_Mul.calls k _ _ t485 _ _ t495 t499 _ ?side1 ?side2 ?side3 ?side4 A21.out).mono ?_); (case side1 => exact zC (Kd.V_reads' HO487.out).2.2); (case side2 => exact (Kd.V_reads' HO487.out).2.1); (case side3 => exact zC (Kd.V_reads' HO497.out).2.2); (case side4 => exact (Kd.V_reads' HO497.out).2.1); rintro e w25 ⟨v500, rfl, ho0, hb⟩; refine ⟨_, rfl, ?_⟩; replace HO487 := zA (Kd.V_elder' (zv HO487 rfl) (Kd.R_base ho0) hb); replace HO490 := zA (Kd.V_elder' (zv HO490 rfl) (Kd.R_base ho0) hb); replace HO494 := zA (Kd.V_elder' (zv HO494 rfl) (Kd.R_base ho0) hb); replace HO497 := zA (Kd.V_elder' (zv HO497 rfl) (Kd.R_base ho0) hb); have HO501 := zA (Kd.R_lower ho0 (below_size (zb HB rfl))); replace BK481 := zkb BK481 hb; replace BK482 := zkb BK482 hb; replace BK483 := zkb BK483 hb; replace HB := zbb HB hb rfl; obtain ⟨Ao26, co26, eo26⟩ := Kd.V_slice HO494.out; subst eo26) | ((with_reducible refine gate_callee (f := 33) rfl ?_); refine goesL_ (some 42) rfl rfl Tryd.func33 zk rfl #[.slice Ao26 t492.length co26, .slice Ao17 t488.length co17] rfl zX ?_; (with_reducible refine (bignat_Mul.calls k _ _ t492 _ _ t488 t502 _ ?side1 ?side2 ?side3 ?side4 A22.out).mono ?_); (case side1 => exact zC (Kd.V_reads' HO494.out).2.2); (case side2 => exact (Kd.V_reads' HO494.out).2.1); (case side3 => exact zC (Kd.V_reads' HO490.out).2.2); (case side4 => exact (Kd.V_reads' HO490.out).2.1); rintro e w27 ⟨v503, rfl, ho0, hb⟩; refine ⟨_, rfl, ?_⟩; replace HO487 := zA (Kd.V_elder' (zv HO487 rfl) (Kd.R_base ho0) hb); replace HO490 := zA (Kd.V_elder' (zv HO490 rfl) (Kd.R_base ho0) hb); replace HO494 := zA (Kd.V_elder' (zv HO494 rfl) (Kd.R_base ho0) hb); replace HO497 := zA (Kd.V_elder' (zv HO497 rfl) (Kd.R_base ho0) hb); have HO504 := zA (Kd.R_lower (Kd.R_new' ho0 (Kd.R_lt (zr HO501 rfl))) (below_size (zb HB rfl))); replace HO501 := zA (Kd.R_elder' (zr HO501 rfl) (Kd.R_base ho0) hb); replace BK481 := zkb BK481 hb; replace BK482 := zkb BK482 hb; replace BK483 := zkb BK483 hb; replace HB := zbb HB hb rfl) | ((with_reducible refine gate_callee (f := 33) rfl ?_); refine goesL_ (some 45) rfl rfl Tryd.func33 zk rfl #[.slice Ao17 t488.length co17, .slice Ao18 t495.length co18] rfl zX ?_; (with_reducible refine (bignat_Mul.calls k _ _ t488 _ _ t495 t505 _ ?side1 ?side2 ?side3 ?side4 A23.out).mono ?_); (case side1 => exact zC (Kd.V_reads' HO490.out).2.2); (case side2 => exact (Kd.V_reads' HO490.out).2.1); (case side3 => exact zC (Kd.V_reads' HO497.out).2.2); (case side4 => exact (Kd.V_reads' HO497.out).2.1); rintro e w28 ⟨v506, rfl, ho0, hb⟩; refine ⟨_, rfl, ?_⟩; replace HO487 := zA (Kd.V_elder' (zv HO487 rfl) (Kd.R_base ho0) hb); replace HO490 := zA (Kd.V_elder' (zv HO490 rfl) (Kd.R_base ho0) hb); replace HO494 := zA (Kd.V_elder' (zv HO494 rfl) (Kd.R_base ho0) hb); replace HO497 := zA (Kd.V_elder' (zv HO497 rfl) (Kd.R_base ho0) hb); have HO507 := zA (Kd.R_lower (Kd.R_new' (Kd.R_new' ho0 (Kd.R_lt (zr HO501 rfl))) (Kd.R_lt (zr HO504 rfl))) (below_size (zb HB rfl))); replace HO501 := zA (Kd.R_elder' (zr HO501 rfl) (Kd.R_base ho0) hb); replace HO504 := zA (Kd.R_elder' (zr HO504 rfl) (Kd.R_base ho0) hb); replace BK481 := zkb BK481 hb; replace BK482 := zkb BK482 hb; replace BK483 := zkb BK483 hb; replace HB := zbb HB hb rfl))
  go_meet
  case rel => exact ⟨_, (t499), (t502), (t505), H', ⟨by first | omega | exact Nat.le_refl _⟩, ⟨Kd.R_V (zRM (Kd.R_types (Kd.R_types (Kd.R_types HO501.out BK481.out (by decide)) BK482.out (by decide)) BK483.out (by decide)) (fun _ hk => ⟨hk.1.1.2, ⟨hk.1.2, hk.2⟩⟩))⟩, ⟨Kd.R_V (zRM (Kd.R_types (Kd.R_types (Kd.R_types HO504.out BK481.out (by decide)) BK482.out (by decide)) BK483.out (by decide)) (fun _ hk => ⟨hk.1.1.2, ⟨hk.1.2, hk.2⟩⟩))⟩, ⟨Kd.R_V (zRM (Kd.R_types (Kd.R_types (Kd.R_types HO507.out BK481.out (by decide)) BK482.out (by decide)) BK483.out (by decide)) (fun _ hk => ⟨hk.1.1.2, ⟨hk.1.2, hk.2⟩⟩))⟩, ⟨zB BK481.out⟩, ⟨zB BK482.out⟩, ⟨zB BK483.out⟩, ⟨by repeat (first | (with_reducible first | exact HB.out | apply below_alloc | apply pw_below_drewN | apply below_drew1 | refine below_set ?_ GE481.out | refine below_set ?_ GE482.out | refine below_set ?_ GE483.out) | exact HB.out)⟩⟩
 case rest =>
  clear HC6
  try clear c1
  try clear c2
  try clear p2
  try clear c3
  try clear c6
  try clear c10
  try clear c11
  try clear c14
  try clear c20
  try clear c20b0
  try clear c20b1
  try clear c23
  try clear hcz12_0
  try clear hcz12_1
  try clear hcz12_2
  try clear hcz15_0
  try clear hcz15_1
  try clear hcz15_2
  try clear hfz12_0
  try clear hfz12_1
  try clear hfz12_2
  try clear hfz15_0
  try clear hfz15_1
  try clear hfz15_2
  obtain ⟨kq, x11_5, x12_5, x13_5, HA, HJ5, HO_11, HO_12, HO_13, BK481, BK482, BK483, HB⟩ := hcut
  cases kq with
  | zero => exact absurd HA.out (by simp [rational_Add.j0])
  | succ kj5 =>
   have H := HA.out
   clear HA
   simp only [rational_Add.j0] at H
   by_cases c29 : (t484 == t491) = true
   ·
    rw [if_pos c29] at H
    have c29b0 : (t484 == t491) = true := c29
    (try (have c29b1 : decide (t484 = t491) = true := by simpa using c29))
    (try (have c29b2 : (t484 == t491) = true := by simpa using c29))
    clear c29
    obtain ⟨t508, A300, H⟩ := zi H
    replace H : ((rational_reduce.f kj5 t484 t508 x13_5).bind fun bt511 => (some (bt511.1, bt511.2.1, bt511.2.2))) = some (r1, r2, r3) := H
    have A30 := zA A300
    clear A300
    obtain ⟨⟨t511, t512, t515⟩, A310, H⟩ := zi H
    replace H : (some (t511, t512, t515)) = some (r1, r2, r3) := H
    have A31 := zA A310
    clear A310
    simp only [Option.some.injEq, Prod.mk.injEq] at H
    obtain ⟨rfl, rfl, rfl⟩ := H
    obtain ⟨Ao32, co32, eo32⟩ := Kd.V_slice HO_11.out
    subst eo32
    obtain ⟨Ao33, co33, eo33⟩ := Kd.V_slice HO_12.out
    subst eo33
    go_wp2_with (first | ((with_reducible refine gate_callee (f := 68) rfl ?_); refine goesL_ (some 52) rfl rfl Tryd.func68 zk rfl #[.slice Ao32 x11_5.length co32, .slice Ao33 x12_5.length co33] rfl zX ?_; (with_reducible refine (bignat_Add.calls kj5 _ _ x11_5 _ _ x12_5 t508 _ ?side1 ?side2 ?side3 ?side4 A30.out).mono ?_); (case side1 => exact zC (Kd.V_reads' HO_11.out).2.2); (case side2 => exact (Kd.V_reads' HO_11.out).2.1); (case side3 => exact zC (Kd.V_reads' HO_12.out).2.2); (case side4 => exact (Kd.V_reads' HO_12.out).2.1); rintro e w34 ⟨v509, rfl, ho0, hb⟩; refine ⟨_, rfl, ?_⟩; replace HO_11 := zA (Kd.V_elder' (zv HO_11 rfl) (Kd.R_base ho0) hb); replace HO_12 := zA (Kd.V_elder' (zv HO_12 rfl) (Kd.R_base ho0) hb); replace HO_13 := zA (Kd.V_elder' (zv HO_13 rfl) (Kd.R_base ho0) hb); have HO510 := zA (Kd.R_lower ho0 (below_size (zb HB rfl))); replace BK481 := zkb BK481 hb; replace BK482 := zkb BK482 hb; replace BK483 := zkb BK483 hb; replace HB := zbb HB hb rfl; obtain ⟨Ao35, co35, eo35⟩ := Kd.R_slice HO510.out; subst eo35; obtain ⟨Ao36, co36, eo36⟩ := Kd.V_slice HO_13.out; subst eo36) | ((with_reducible refine gate_callee (f := 46) rfl ?_); refine goesL_ (some 54) rfl rfl Tryd.func46 zk rfl #[.bool t484, .slice Ao35 t508.length co35, .slice Ao36 x13_5.length co36] rfl zX ?_; (with_reducible refine (rational_reduce.calls kj5 t484 _ _ t508 _ _ x13_5 t511 t512 t515 _ ?side1 ?side2 ?side3 ?side4 A31.out).mono ?_); (case side1 => exact zC (Kd.R_reads' HO510.out).2.2); (case side2 => exact (Kd.R_reads' HO510.out).2.1); (case side3 => exact zC (Kd.V_reads' HO_13.out).2.2); (case side4 => exact (Kd.V_reads' HO_13.out).2.1); rintro e w37 ⟨v513, v516, rfl, ho0, ho1, hb⟩; refine ⟨_, rfl, ?_⟩; replace HO_11 := zA (Kd.V_mono (Kd.V_told (Kd.V_told (Kd.V_old (zv HO_11 rfl) hb) (Kd.R_base ho0)) (Kd.R_base ho1)) (fun _ h_ => h_.1)); replace HO_12 := zA (Kd.V_mono (Kd.V_told (Kd.V_told (Kd.V_old (zv HO_12 rfl) hb) (Kd.R_base ho0)) (Kd.R_base ho1)) (fun _ h_ => h_.1)); replace HO_13 := zA (Kd.V_mono (Kd.V_told (Kd.V_told (Kd.V_old (zv HO_13 rfl) hb) (Kd.R_base ho0)) (Kd.R_base ho1)) (fun _ h_ => h_.1)); have HO514 := zA (Kd.R_lower (Kd.R_new' ho0 (Kd.R_lt (zr HO510 rfl))) (below_size (zb HB rfl))); have HO517 := zA (Kd.R_lower (Kd.R_new' ho1 (Kd.R_lt (zr HO510 rfl))) (below_size (zb HB rfl))); replace HO510 := zA (Kd.R_mono (Kd.R_told (Kd.R_told (Kd.R_old (zr HO510 rfl) hb) (Kd.R_base ho0)) (Kd.R_base ho1)) (fun _ h_ => h_.1)); replace BK481 := zkb BK481 hb; replace BK482 := zkb BK482 hb; replace BK483 := zkb BK483 hb; replace HB := zbb HB hb rfl; have hnb38 := NB483_481.out; have hnc38 := NB481_483.out; have hnb39 := NB483_482.out; have hnc39 := NB482_483.out; have hcz40_0 := zc BK483 0 (v := .bool false) rfl; have hcz40_1 := zc BK483 1 (v := .slice none 0 0) rfl; have hcz40_2 := zc BK483 2 (v := .slice none 0 0) rfl; have hfz40_0 := zF BK483 0; have hfz40_1 := zF BK483 1; have hfz40_2 := zF BK483 2; obtain ⟨Ao41, co41, eo41⟩ := Kd.R_slice HO514.out; subst eo41; obtain ⟨Ao42, co42, eo42⟩ := Kd.R_slice HO517.out; subst eo42))
    refine bodyPost_ret (results_cell_row rfl _ _ gb483 25 #[.bool t511, .slice Ao41 t512.length co41, .slice Ao42 t515.length co42] (0, 0) _ rfl (by (with_reducible repeat (first | refine blk_drewN ?_ _ | refine blk_drew ?_ | refine blk_alloc ?_ _)); refine blk_put (cs := #[.bool t511, .slice Ao41 t512.length co41, .slice none 0 0]) ?_ 2 _ rfl; (with_reducible repeat (first | refine blk_drewN ?_ _ | refine blk_drew ?_ | refine blk_alloc ?_ _)); refine blk_put (cs := #[.bool t511, .slice none 0 0, .slice none 0 0]) ?_ 1 _ rfl; (with_reducible repeat (first | refine blk_drewN ?_ _ | refine blk_drew ?_ | refine blk_alloc ?_ _)); refine blk_put (cs := #[.bool false, .slice none 0 0, .slice none 0 0]) ?_ 0 _ rfl; (with_reducible repeat (first | refine blk_drewN ?_ _ | refine blk_drew ?_ | refine blk_alloc ?_ _)); exact BK483.out) Tryd.underlying25 rfl zk) rfl ?_
    exact ⟨_, _, zE, zRM (Kd.R_far (p := ⟨gb483, 2, none⟩) (Kd.R_far (p := ⟨gb483, 1, none⟩) (Kd.R_far (p := ⟨gb483, 0, none⟩) (Kd.R_types HO514.out BK483.out (by decide)) (fun _ hk => hk.2) (.bool t511)) (fun _ hk => hk.2) (.slice Ao41 t512.length co41)) (fun _ hk => hk.2) (.slice Ao42 t515.length co42)) (fun _ hk => hk.1.1), zRM (Kd.R_far (p := ⟨gb483, 2, none⟩) (Kd.R_far (p := ⟨gb483, 1, none⟩) (Kd.R_far (p := ⟨gb483, 0, none⟩) (Kd.R_types HO517.out BK483.out (by decide)) (fun _ hk => hk.2) (.bool t511)) (fun _ hk => hk.2) (.slice Ao41 t512.length co41)) (fun _ hk => hk.2) (.slice Ao42 t515.length co42)) (fun _ hk => hk.1.1), by repeat (first | (with_reducible first | exact HB.out | apply below_alloc | apply pw_below_drewN | apply below_drew1 | refine below_set ?_ GE481.out | refine below_set ?_ GE482.out | refine below_set ?_ GE483.out) | exact HB.out)⟩
   rw [if_neg c29] at H
   have c29b0 : (t484 == t491) = false := by simpa using c29
   (try (have c29b1 : decide (t484 = t491) = false := by simpa using c29))
   (try (have c29b2 : (t484 == t491) = false := by simpa using c29))
   (try (have c29b3 : ¬ (t484 = t491) := by simpa using c29))
   clear c29
   obtain ⟨⟨t518, t519⟩, A430, H⟩ := zi H
   replace H : (if t519 = true then ((rational_reduce.f kj5 t484 t518 x13_5).bind fun bt522 => (some (bt522.1, bt522.2.1, bt522.2.2))) else (none)) = some (r1, r2, r3) := H
   have A43 := zA A430
   clear A430
   by_cases c44 : t519 = true
   ·
    subst c44
    have H1 : ((rational_reduce.f kj5 t484 t518 x13_5).bind fun bt522 => (some (bt522.1, bt522.2.1, bt522.2.2))) = some (r1, r2, r3) := by rw [if_pos rfl] at H; exact H
    clear H
    have H := H1
    clear H1
    obtain ⟨⟨t522, t523, t526⟩, A450, H⟩ := zi H
    replace H : (some (t522, t523, t526)) = some (r1, r2, r3) := H
    have A45 := zA A450
    clear A450
    simp only [Option.some.injEq, Prod.mk.injEq] at H
    obtain ⟨rfl, rfl, rfl⟩ := H
    obtain ⟨Ao46, co46, eo46⟩ := Kd.V_slice HO_11.out
    subst eo46
    obtain ⟨Ao47, co47, eo47⟩ := Kd.V_slice HO_12.out
    subst eo47
    go_wp2_with (first | ((with_reducible refine gate_callee (f := 69) rfl ?_); refine goesL_ (some 58) rfl rfl Tryd.func69 zk rfl #[.slice Ao46 x11_5.length co46, .slice Ao47 x12_5.length co47] rfl zX ?_; (with_reducible refine (bignat_Sub.calls kj5 _ _ x11_5 _ _ x12_5 t518 true _ ?side1 ?side2 ?side3 ?side4 A43.out).mono ?_); (case side1 => exact zC (Kd.V_reads' HO_11.out).2.2); (case side2 => exact (Kd.V_reads' HO_11.out).2.1); (case side3 => exact zC (Kd.V_reads' HO_12.out).2.2); (case side4 => exact (Kd.V_reads' HO_12.out).2.1); rintro e w48 ⟨v520, rfl, ho0, hb⟩; refine ⟨_, rfl, ?_⟩; replace HO_11 := zA (Kd.V_elder' (zv HO_11 rfl) (Kd.R_base ho0) hb); replace HO_12 := zA (Kd.V_elder' (zv HO_12 rfl) (Kd.R_base ho0) hb); replace HO_13 := zA (Kd.V_elder' (zv HO_13 rfl) (Kd.R_base ho0) hb); have HO521 := zA (Kd.R_lower ho0 (below_size (zb HB rfl))); replace BK481 := zkb BK481 hb; replace BK482 := zkb BK482 hb; replace BK483 := zkb BK483 hb; replace HB := zbb HB hb rfl; obtain ⟨Ao49, co49, eo49⟩ := Kd.R_slice HO521.out; subst eo49; obtain ⟨Ao50, co50, eo50⟩ := Kd.V_slice HO_13.out; subst eo50) | ((with_reducible refine gate_callee (f := 46) rfl ?_); refine goesL_ (some 65) rfl rfl Tryd.func46 zk rfl #[.bool t484, .slice Ao49 t518.length co49, .slice Ao50 x13_5.length co50] rfl zX ?_; (with_reducible refine (rational_reduce.calls kj5 t484 _ _ t518 _ _ x13_5 t522 t523 t526 _ ?side1 ?side2 ?side3 ?side4 A45.out).mono ?_); (case side1 => exact zC (Kd.R_reads' HO521.out).2.2); (case side2 => exact (Kd.R_reads' HO521.out).2.1); (case side3 => exact zC (Kd.V_reads' HO_13.out).2.2); (case side4 => exact (Kd.V_reads' HO_13.out).2.1); rintro e w51 ⟨v524, v527, rfl, ho0, ho1, hb⟩; refine ⟨_, rfl, ?_⟩; replace HO_11 := zA (Kd.V_mono (Kd.V_told (Kd.V_told (Kd.V_old (zv HO_11 rfl) hb) (Kd.R_base ho0)) (Kd.R_base ho1)) (fun _ h_ => h_.1)); replace HO_12 := zA (Kd.V_mono (Kd.V_told (Kd.V_told (Kd.V_old (zv HO_12 rfl) hb) (Kd.R_base ho0)) (Kd.R_base ho1)) (fun _ h_ => h_.1)); replace HO_13 := zA (Kd.V_mono (Kd.V_told (Kd.V_told (Kd.V_old (zv HO_13 rfl) hb) (Kd.R_base ho0)) (Kd.R_base ho1)) (fun _ h_ => h_.1)); have HO525 := zA (Kd.R_lower (Kd.R_new' ho0 (Kd.R_lt (zr HO521 rfl))) (below_size (zb HB rfl))); have HO528 := zA (Kd.R_lower (Kd.R_new' ho1 (Kd.R_lt (zr HO521 rfl))) (below_size (zb HB rfl))); replace HO521 := zA (Kd.R_mono (Kd.R_told (Kd.R_told (Kd.R_old (zr HO521 rfl) hb) (Kd.R_base ho0)) (Kd.R_base ho1)) (fun _ h_ => h_.1)); replace BK481 := zkb BK481 hb; replace BK482 := zkb BK482 hb; replace BK483 := zkb BK483 hb; replace HB := zbb HB hb rfl; have hnb52 := NB483_481.out; have hnc52 := NB481_483.out; have hnb53 := NB483_482.out; have hnc53 := NB482_483.out; have hcz54_0 := zc BK483 0 (v := .bool false) rfl; have hcz54_1 := zc BK483 1 (v := .slice none 0 0) rfl; have hcz54_2 := zc BK483 2 (v := .slice none 0 0) rfl; have hfz54_0 := zF BK483 0; have hfz54_1 := zF BK483 1; have hfz54_2 := zF BK483 2; obtain ⟨Ao55, co55, eo55⟩ := Kd.R_slice HO525.out; subst eo55; obtain ⟨Ao56, co56, eo56⟩ := Kd.R_slice HO528.out; subst eo56))
    refine bodyPost_ret (results_cell_row rfl _ _ gb483 25 #[.bool t522, .slice Ao55 t523.length co55, .slice Ao56 t526.length co56] (0, 0) _ rfl (by (with_reducible repeat (first | refine blk_drewN ?_ _ | refine blk_drew ?_ | refine blk_alloc ?_ _)); refine blk_put (cs := #[.bool t522, .slice Ao55 t523.length co55, .slice none 0 0]) ?_ 2 _ rfl; (with_reducible repeat (first | refine blk_drewN ?_ _ | refine blk_drew ?_ | refine blk_alloc ?_ _)); refine blk_put (cs := #[.bool t522, .slice none 0 0, .slice none 0 0]) ?_ 1 _ rfl; (with_reducible repeat (first | refine blk_drewN ?_ _ | refine blk_drew ?_ | refine blk_alloc ?_ _)); refine blk_put (cs := #[.bool false, .slice none 0 0, .slice none 0 0]) ?_ 0 _ rfl; (with_reducible repeat (first | refine blk_drewN ?_ _ | refine blk_drew ?_ | refine blk_alloc ?_ _)); exact BK483.out) Tryd.underlying25 rfl zk) rfl ?_
    exact ⟨_, _, zE, zRM (Kd.R_far (p := ⟨gb483, 2, none⟩) (Kd.R_far (p := ⟨gb483, 1, none⟩) (Kd.R_far (p := ⟨gb483, 0, none⟩) (Kd.R_types HO525.out BK483.out (by decide)) (fun _ hk => hk.2) (.bool t522)) (fun _ hk => hk.2) (.slice Ao55 t523.length co55)) (fun _ hk => hk.2) (.slice Ao56 t526.length co56)) (fun _ hk => hk.1.1), zRM (Kd.R_far (p := ⟨gb483, 2, none⟩) (Kd.R_far (p := ⟨gb483, 1, none⟩) (Kd.R_far (p := ⟨gb483, 0, none⟩) (Kd.R_types HO528.out BK483.out (by decide)) (fun _ hk => hk.2) (.bool t522)) (fun _ hk => hk.2) (.slice Ao55 t523.length co55)) (fun _ hk => hk.2) (.slice Ao56 t526.length co56)) (fun _ hk => hk.1.1), by repeat (first | (with_reducible first | exact HB.out | apply below_alloc | apply pw_below_drewN | apply below_drew1 | refine below_set ?_ GE481.out | refine below_set ?_ GE482.out | refine below_set ?_ GE483.out) | exact HB.out)⟩
   replace c44 := Bool.eq_false_iff.mpr c44
   subst c44
   have H1 : (none) = some (r1, r2, r3) := by rw [if_neg (show ¬ (false = true) by decide)] at H; exact H
   clear H
   have H := H1
   clear H1
   cases H

end Go.Proofs.YtoeldfopjalpkaaDoor.Q

