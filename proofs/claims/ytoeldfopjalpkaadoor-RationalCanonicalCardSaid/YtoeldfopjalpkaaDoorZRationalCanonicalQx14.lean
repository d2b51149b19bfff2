/- Lemmas for the proof of one law of this seat (Qx14). -/
import Derived.Test.YtoeldfopjalpkaaDoorZRationalCanonicalQx0
import Derived.Test.YtoeldfopjalpkaaDoorZRationalCanonicalQx11
import Derived.Test.YtoeldfopjalpkaaDoorZRationalCanonicalZip
namespace Go.Proofs.YtoeldfopjalpkaaDoor.Q
open Go.RowKit Go.Proofs.YtoeldfopjalpkaaDoorW.PrintWords Go.Proofs.YtoeldfopjalpkaaDoorW.PrintLast Go.Proofs.YtoeldfopjalpkaaDoorW.PrintMore
attribute [local go_sem] max2_int min2_int max_two min_two max_three min_three max_four min_four   -- for this text's walks alone
set_option linter.unusedVariables false
set_option linter.unusedSimpArgs false

def rational_same.l0 : Nat → List Int → List Int → Int → Int → Option (Bool)
 | 0, _, _, _, _ => none
 | k + 1, x0, x1, x12, x13 => if x13 < x12 then (if 0 ≤ x13 then (if x13 < (x0.length : Int) then (if x13 < (x1.length : Int) then (if (rd x0 x13) = (rd x1 x13) then (rational_same.l0 k x0 x1 x12 (wrap64 (x13 + 1))) else (none)) else (none)) else (none)) else (none)) else (some true)
def rational_same.f (k : Nat) (l0 : List Int) (l1 : List Int) : Option (Bool) := if (l0.length : Int) = (l1.length : Int) then (rational_same.l0 k l0 l1 (l0.length : Int) 0) else (none)
set_option maxHeartbeats 8000000 in
set_option maxRecDepth 100000 in
theorem rational_same.calls (k : Nat) (A0 : Option Addr) (c0 : Nat) (l0 : List Int) (A1 : Option Addr) (c1 : Nat) (l1 : List Int) (r : Bool) (w : World) (hr0 : Kd.C (Kd.int .u32) w A0 l0.length l0) (hc0 : l0.length ≤ c0) (hr1 : Kd.C (Kd.int .u32) w A1 l1.length l1) (hc1 : l1.length ≤ c1) (h : rational_same.f k l0 l1 = some r) :
 Calls Tryd.prog 72 #[.slice A0 l0.length c0, .slice A1 l1.length c1] w fun e w' => e = .returned (.bool r) ∧ Drawn0 w w' := by
 have HR0 := zA hr0
 have HC0 := zA hc0
 clear hr0 hc0
 have HR1 := zA hr1
 have HC1 := zA hc1
 clear hr1 hc1
 have H : (if (l0.length : Int) = (l1.length : Int) then (rational_same.l0 k l0 l1 (l0.length : Int) 0) else (none)) = some r := h
 clear h
 by_cases c3 : (l0.length : Int) = (l1.length : Int)
 ·
  rw [if_pos c3] at H
  have c3b0 := beq_iff_eq.mpr c3
  have c3b1 := bne_eq_false_iff_eq.mpr c3
  have c3b2 : (l0.length == l1.length) = true := by first | simpa using c3 | (simp at c3 ⊢; omega)
  clear c3
  have H' := zA H
  clear H
  go_enter Tryd.func72, Tryd.ntmps72
  go_wp2
  repeat (go_quiet (fail); try go_wp2)
  go_loopg [13] k (fun kq v13 w' => ∃ (x13_1 : Int), v13 = .int .i64 x13_1 ∧ Aside0 (rational_same.l0 kq l0 l1 (l0.length : Int) x13_1 = some r) ∧ Aside0 (kq ≤ k) ∧ Drawn0 w w')
  case atStart => exact ⟨(0), zS, H', ⟨Nat.le_refl _⟩, zW⟩
  case round =>
   clear H'
   try clear c1
   try clear p2
   try clear c3
   try clear c3b0
   try clear c3b1
   try clear c3b2
   obtain ⟨x13_1, rfl, HA, HK1, ⟨m1, rfl⟩⟩ := hrel
   cases gk with
   | zero => exact absurd HA.out (by simp [rational_same.l0])
   | succ k1 =>
    have H := HA.out
    clear HA
    simp only [rational_same.l0] at H
    by_cases c4 : x13_1 < (l0.length : Int)
    ·
     rw [if_pos c4] at H
     have c4b0 := decide_eq_true c4
     clear c4
     by_cases c5 : 0 ≤ x13_1
     ·
      rw [if_pos c5] at H
      have c5b0 := decide_eq_true c5
      clear c5
      by_cases c6 : x13_1 < (l0.length : Int)
      ·
       rw [if_pos c6] at H
       have c6b0 := decide_eq_true c6
       clear c6
       by_cases c7 : x13_1 < (l1.length : Int)
       ·
        rw [if_pos c7] at H
        have c7b0 := decide_eq_true c7
        clear c7
        by_cases c8 : (rd l0 x13_1) = (rd l1 x13_1)
        ·
         rw [if_pos c8] at H
         have c8b0 := beq_iff_eq.mpr c8
         have c8b1 := bne_eq_false_iff_eq.mpr c8
         clear c8
         have H' := zA H
         clear H
         have p640 : 0 ≤ (x13_1 : Int) := zD
         have q640 : x13_1 < (l0.length : Int) := zD
         obtain ⟨ad640, e640, hx640_0⟩ := Kd.at_int HR0.out x13_1 p640 q640
         cases e640
         replace p640 := eq_true p640
         replace q640 := eq_true q640
         have p641 : 0 ≤ (x13_1 : Int) := zD
         have q641 : x13_1 < (l1.length : Int) := zD
         obtain ⟨ad641, e641, hx641_0⟩ := Kd.at_int HR1.out x13_1 p641 q641
         cases e641
         replace p641 := eq_true p641
         replace q641 := eq_true q641
         go_wp2
         repeat (go_quiet (fail); try go_wp2)
         go_roundg k1
         case measure => have := HK1.out; omega
         case rel => exact ⟨(wrap64 (x13_1 + 1)), zS, H', ⟨by have := HK1.out; omega⟩, zW⟩
        rw [if_neg c8] at H
        cases H
       rw [if_neg c7] at H
       cases H
      rw [if_neg c6] at H
      cases H
     rw [if_neg c5] at H
     cases H
    rw [if_neg c4] at H
    have c4b0 := decide_eq_false c4
    clear c4
    obtain rfl := Option.some.inj H
    go_wp2
    repeat (go_quiet (fail); try go_wp2)
    go_ret
    exact ⟨zS, zW⟩
 rw [if_neg c3] at H
 cases H

def rational_IsCanonical.f (k : Nat) (a0_0 : Bool) (l0_1 : List Int) (l0_2 : List Int) : Option (Bool) := (rational_Normalize.f k a0_0 l0_1 l0_2).bind fun bt643 => (if (a0_0 == bt643.1) = true then ((rational_same.f k l0_1 bt643.2.1).bind fun t651 => (if t651 = true then ((rational_same.f k l0_2 bt643.2.2).bind fun t652 => (some t652)) else (none))) else (none))
set_option maxHeartbeats 8000000 in
set_option maxRecDepth 100000 in
theorem rational_IsCanonical.calls (k : Nat) (a0_0 : Bool) (A0_1 : Option Addr) (c0_1 : Nat) (l0_1 : List Int) (A0_2 : Option Addr) (c0_2 : Nat) (l0_2 : List Int) (r : Bool) (w : World) (hr0_1 : Kd.C (Kd.int .u32) w A0_1 l0_1.length l0_1) (hc0_1 : l0_1.length ≤ c0_1) (hr0_2 : Kd.C (Kd.int .u32) w A0_2 l0_2.length l0_2) (hc0_2 : l0_2.length ≤ c0_2) (h : rational_IsCanonical.f k a0_0 l0_1 l0_2 = some r) :
 Calls Tryd.prog 34 #[.agg #[.bool a0_0, .slice A0_1 l0_1.length c0_1, .slice A0_2 l0_2.length c0_2]] w fun e w' => e = .returned (.bool r) ∧ Below w.heap.size w w' := by
 have hu25 := Tryd.underlying25
 have HR0_1 := zA hr0_1
 have HC0_1 := zA hc0_1
 clear hr0_1 hc0_1
 have HR0_2 := zA hr0_2
 have HC0_2 := zA hc0_2
 clear hr0_2 hc0_2
 have HB := zA (Below.refl w.heap.size w)
 have H : ((rational_Normalize.f k a0_0 l0_1 l0_2).bind fun bt643 => (if (a0_0 == bt643.1) = true then ((rational_same.f k l0_1 bt643.2.1).bind fun t651 => (if t651 = true then ((rational_same.f k l0_2 bt643.2.2).bind fun t652 => (some t652)) else (none))) else (none))) = some r := h
 clear h
 obtain ⟨⟨t643, t644, t647⟩, A20, H⟩ := zi H
 replace H : (if (a0_0 == t643) = true then ((rational_same.f k l0_1 t644).bind fun t651 => (if t651 = true then ((rational_same.f k l0_2 t647).bind fun t652 => (some t652)) else (none))) else (none)) = some r := H
 have A2 := zA A20
 clear A20
 by_cases c3 : (a0_0 == t643) = true
 ·
  rw [if_pos c3] at H
  have c3b0 : (a0_0 == t643) = true := c3
  (try (have c3b1 : decide (a0_0 = t643) = true := by simpa using c3))
  (try (have c3b2 : (a0_0 == t643) = true := by simpa using c3))
  clear c3
  obtain ⟨t651, A40, H⟩ := zi H
  replace H : (if t651 = true then ((rational_same.f k l0_2 t647).bind fun t652 => (some t652)) else (none)) = some r := H
  have A4 := zA A40
  clear A40
  by_cases c5 : t651 = true
  ·
   subst c5
   have H1 : ((rational_same.f k l0_2 t647).bind fun t652 => (some t652)) = some r := by rw [if_pos rfl] at H; exact H
   clear H
   have H := H1
   clear H1
   obtain ⟨t652, A60, H⟩ := zi H
   replace H : (some t652) = some r := H
   have A6 := zA A60
   clear A60
   obtain rfl := Option.some.inj H
   go_enter Tryd.func34, Tryd.ntmps34
   have M203_0 : Aside0 True := ⟨trivial⟩
   have M203_1 : Aside0 True := ⟨trivial⟩
   go_wp2_with (first | ((with_reducible refine gate_dst (N := 1) rfl ?_); refine box_event ?hg (N := 1) ?hd (cs := #[.bool a0_0, .slice A0_1 l0_1.length c0_1, .slice A0_2 l0_2.length c0_2]) (t := 25) ?hr ?_; (case hd => rfl); (case hg => rfl); (case hr => first | (go_simp; done) | (go_simp; rfl)); intro gb642 hg w7 hbox hb; have BK642 := zA (hbox); have GW642 := zA ((by rw [hg]; exact (below_size (zb HB rfl)) : w.heap.size ≤ gb642)); have GE642 := zA ((by rw [hg]; exact (below_size (zb HB rfl)) : w.heap.size ≤ gb642)); replace HB := zbb HB hb rfl; clear hb hbox hg; have hcz8_0 := zc BK642 0 (v := .bool a0_0) rfl; have hcz8_1 := zc BK642 1 (v := .slice A0_1 l0_1.length c0_1) rfl; have hcz8_2 := zc BK642 2 (v := .slice A0_2 l0_2.length c0_2) rfl; have hfz8_0 := zF BK642 0; have hfz8_1 := zF BK642 1; have hfz8_2 := zF BK642 2) | ((with_reducible refine gate_callee (f := 20) rfl ?_); refine goesL_ (some 5) rfl rfl Tryd.func20 zk rfl #[.agg #[.bool a0_0, .slice A0_1 l0_1.length c0_1, .slice A0_2 l0_2.length c0_2]] rfl zX ?_; (with_reducible refine (rational_Normalize.calls k a0_0 _ _ l0_1 _ _ l0_2 t643 t644 t647 _ ?side1 ?side2 ?side3 ?side4 A2.out).mono ?_); (case side1 => exact zC (Kd.C_below HR0_1.out HB.out)); (case side2 => exact HC0_1.out); (case side3 => exact zC (Kd.C_below HR0_2.out HB.out)); (case side4 => exact HC0_2.out); rintro e w9 ⟨v645, v648, rfl, ho0, ho1, hb⟩; refine ⟨_, rfl, ?_⟩; have HO646 := zA (Kd.R_lower ho0 (below_size (zb HB rfl))); have HO649 := zA (Kd.R_lower ho1 (below_size (zb HB rfl))); replace BK642 := zkb BK642 hb; replace HB := zbb HB hb rfl) | ((with_reducible refine gate_dst (N := 3) rfl ?_); refine box_event ?hg (N := 3) ?hd (cs := #[.bool false, .slice none 0 0, .slice none 0 0]) (t := 25) ?hr ?_; (case hd => rfl); (case hg => rfl); (case hr => first | (go_simp; done) | (go_simp; rfl)); intro gb650 hg w10 hbox hb; replace HO646 := zrb HO646 hb rfl; replace HO649 := zrb HO649 hb rfl; have BK650 := zA (hbox); have GW650 := zA ((by rw [hg]; exact (below_size (zb HB rfl)) : w.heap.size ≤ gb650)); have GE650 := zA ((by rw [hg]; exact (below_size (zb HB rfl)) : w.heap.size ≤ gb650)); replace HB := zbb HB hb rfl; have NB642_650 := zA ((by rw [hg]; exact Nat.ne_of_lt (blk_lt BK642.out) : gb642 ≠ gb650)); have NB650_642 := zA ((by rw [hg]; exact Nat.ne_of_gt (blk_lt BK642.out) : gb650 ≠ gb642)); replace BK642 := zkb BK642 hb; clear hb hbox hg; have hnb11 := NB650_642.out; have hnc11 := NB642_650.out; have hcz12_0 := zc BK650 0 (v := .bool false) rfl; have hcz12_1 := zc BK650 1 (v := .slice none 0 0) rfl; have hcz12_2 := zc BK650 2 (v := .slice none 0 0) rfl; have hfz12_0 := zF BK650 0; have hfz12_1 := zF BK650 1; have hfz12_2 := zF BK650 2; obtain ⟨Ao13, co13, eo13⟩ := Kd.R_slice HO646.out; subst eo13; obtain ⟨Ao14, co14, eo14⟩ := Kd.R_slice HO649.out; subst eo14; have hcz15_0 := zc BK642 0 (v := .bool a0_0) rfl; have hcz15_1 := zc BK642 1 (v := .slice A0_1 l0_1.length c0_1) rfl; have hcz15_2 := zc BK642 2 (v := .slice A0_2 l0_2.length c0_2) rfl; have hfz15_0 := zF BK642 0; have hfz15_1 := zF BK642 1; have hfz15_2 := zF BK642 2) | (go_at_call 72; clear M203_0; (with_reducible refine (rational_same.calls k _ _ l0_1 _ _ t644 true _ ?side1 ?side2 ?side3 ?side4 A4.out).mono ?_); (case side1 => exact Kd.C_below HR0_1.out (zG2 GE642.out GE650.out)); (case side2 => exact HC0_1.out); (case side3 => refine (Kd.R_reads' (e := 37) (base := w.heap.size) (ok := fun k_ => some k_ ≠ (.slice Ao14 t647.length co14 : Value).ownBlock) (n := t644.length) (c := co13) ?_).2.2; exact (zR ((Kd.R_mono (Kd.R_far (p := ⟨gb650, 2, none⟩) (Kd.R_far (p := ⟨gb650, 1, none⟩) (Kd.R_far (p := ⟨gb650, 0, none⟩) (Kd.R_types HO646.out BK650.out (by decide)) (fun _ hk => hk.2) (.bool t643)) (fun _ hk => hk.2) (.slice Ao13 t644.length co13)) (fun _ hk => hk.2) (.slice Ao14 t647.length co14)) (fun _ h_ => h_.1))))); (case side4 => exact (Kd.R_reads' HO646.out).2.1); rintro e w' ⟨rfl, ⟨nd, rfl⟩⟩) | (go_at_call 72; clear M203_1; (with_reducible refine (rational_same.calls k _ _ l0_2 _ _ t647 t652 _ ?side1 ?side2 ?side3 ?side4 A6.out).mono ?_); (case side1 => exact Kd.C_below HR0_2.out (zG2 GE642.out GE650.out)); (case side2 => exact HC0_2.out); (case side3 => refine (Kd.R_reads' (e := 37) (base := w.heap.size) (ok := fun k_ => some k_ ≠ (.slice Ao13 t644.length co13 : Value).ownBlock) (n := t647.length) (c := co14) ?_).2.2; exact (zR ((Kd.R_mono (Kd.R_far (p := ⟨gb650, 2, none⟩) (Kd.R_far (p := ⟨gb650, 1, none⟩) (Kd.R_far (p := ⟨gb650, 0, none⟩) (Kd.R_types HO649.out BK650.out (by decide)) (fun _ hk => hk.2) (.bool t643)) (fun _ hk => hk.2) (.slice Ao13 t644.length co13)) (fun _ hk => hk.2) (.slice Ao14 t647.length co14)) (fun _ h_ => h_.1))))); (case side4 => exact (Kd.R_reads' HO649.out).2.1); rintro e w' ⟨rfl, ⟨nd, rfl⟩⟩))
   go_ret
   exact ⟨zE, zG2 GE642.out GE650.out⟩
  replace c5 := Bool.eq_false_iff.mpr c5
  subst c5
  have H1 : (none) = some r := by rw [if_neg (show ¬ (false = true) by decide)] at H; exact H
  clear H
  have H := H1
  clear H1
  cases H
 rw [if_neg c3] at H
 cases H

end Go.Proofs.YtoeldfopjalpkaaDoor.Q

