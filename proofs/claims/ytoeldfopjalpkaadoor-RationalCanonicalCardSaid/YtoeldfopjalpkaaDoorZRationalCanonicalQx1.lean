/- Lemmas for the proof of one law of this seat (Qx1). -/
import Derived.Test.YtoeldfopjalpkaaDoorZRationalCanonicalQx0
import Derived.Test.YtoeldfopjalpkaaDoorZRationalCanonicalZip
namespace Go.Proofs.YtoeldfopjalpkaaDoor.Q
open Go.RowKit Go.Proofs.YtoeldfopjalpkaaDoorW.PrintWords Go.Proofs.YtoeldfopjalpkaaDoorW.PrintLast Go.Proofs.YtoeldfopjalpkaaDoorW.PrintMore
attribute [local go_sem] max2_int min2_int max_two min_two max_three min_three max_four min_four   -- for this text's walks alone
set_option linter.unusedVariables false
set_option linter.unusedSimpArgs false

def credenceref1_NatSame.l0 : Nat → List Int → List Int → Int → Option (Bool)
 | 0, _, _, _ => none
 | k + 1, x0, x1, x5 => if x5 < (x0.length : Int) then (if 0 ≤ x5 then (if x5 < (x1.length : Int) then (if (rd x0 x5) = (rd x1 x5) then (credenceref1_NatSame.l0 k x0 x1 (wrap64 (x5 + 1))) else (some false)) else (none)) else (none)) else (some true)
def credenceref1_NatSame.f (k : Nat) (l0 : List Int) (l1 : List Int) : Option (Bool) := if (l0.length : Int) = (l1.length : Int) then (credenceref1_NatSame.l0 k l0 l1 0) else (some false)
theorem credenceref1_NatSame.mono_l : ∀ k, (∀ y0 y1 y2, LeO (credenceref1_NatSame.l0 k y0 y1 y2) (credenceref1_NatSame.l0 (k + 1) y0 y1 y2))
 | 0 => fun _ _ _ r h => by simp [credenceref1_NatSame.l0] at h
 | k + 1 => by
  have ih0 := credenceref1_NatSame.mono_l k
  intro y0 y1 y2
  unfold credenceref1_NatSame.l0
  exact zm1 ih0
set_option maxHeartbeats 8000000 in
set_option maxRecDepth 100000 in
theorem credenceref1_NatSame.calls (k : Nat) (A0 : Option Addr) (c0 : Nat) (l0 : List Int) (A1 : Option Addr) (c1 : Nat) (l1 : List Int) (r : Bool) (w : World) (hr0 : Kd.C (Kd.int .u32) w A0 l0.length l0) (hc0 : l0.length ≤ c0) (hr1 : Kd.C (Kd.int .u32) w A1 l1.length l1) (hc1 : l1.length ≤ c1) (h : credenceref1_NatSame.f k l0 l1 = some r) :
 Calls Tryd.prog 81 #[.slice A0 l0.length c0, .slice A1 l1.length c1] w fun e w' => e = .returned (.bool r) ∧ Drawn0 w w' := by
 have HR0 := zA hr0
 have HC0 := zA hc0
 clear hr0 hc0
 have HR1 := zA hr1
 have HC1 := zA hc1
 clear hr1 hc1
 have H : (if (l0.length : Int) = (l1.length : Int) then (credenceref1_NatSame.l0 k l0 l1 0) else (some false)) = some r := h
 clear h
 by_cases c3 : (l0.length : Int) = (l1.length : Int)
 ·
  rw [if_pos c3] at H
  have c3b0 := beq_iff_eq.mpr c3
  have c3b1 := bne_eq_false_iff_eq.mpr c3
  have c3b2 : (l0.length == l1.length) = true := by first | simpa using c3 | (simp at c3 ⊢; omega)
  clear c3
  have H' := zA H
  clear H
  go_enter Tryd.func81, Tryd.ntmps81
  go_wp2
  repeat (go_quiet (fail); try go_wp2)
  go_loopg [5] k (fun kq v5 w' => ∃ (x5_1 : Int), v5 = .int .i64 x5_1 ∧ Aside0 (credenceref1_NatSame.l0 kq l0 l1 x5_1 = some r) ∧ Aside0 (kq ≤ k) ∧ Drawn0 w w')
  case atStart => exact ⟨(0), zS, H', ⟨Nat.le_refl _⟩, zW⟩
  case round =>
   clear H'
   try clear c1
   try clear p2
   try clear c3
   try clear c3b0
   try clear c3b1
   try clear c3b2
   obtain ⟨x5_1, rfl, HA, HK1, ⟨m1, rfl⟩⟩ := hrel
   cases gk with
   | zero => exact absurd HA.out (by simp [credenceref1_NatSame.l0])
   | succ k1 =>
    have H := HA.out
    clear HA
    simp only [credenceref1_NatSame.l0] at H
    by_cases c4 : x5_1 < (l0.length : Int)
    ·
     rw [if_pos c4] at H
     have c4b0 := decide_eq_true c4
     clear c4
     by_cases c5 : 0 ≤ x5_1
     ·
      rw [if_pos c5] at H
      have c5b0 := decide_eq_true c5
      clear c5
      by_cases c6 : x5_1 < (l1.length : Int)
      ·
       rw [if_pos c6] at H
       have c6b0 := decide_eq_true c6
       clear c6
       by_cases c7 : (rd l0 x5_1) = (rd l1 x5_1)
       ·
        rw [if_pos c7] at H
        have c7b0 := beq_iff_eq.mpr c7
        have c7b1 := bne_eq_false_iff_eq.mpr c7
        clear c7
        have H' := zA H
        clear H
        have p101 : 0 ≤ (x5_1 : Int) := zD
        have q101 : x5_1 < (l0.length : Int) := zD
        obtain ⟨ad101, e101, hx101_0⟩ := Kd.at_int HR0.out x5_1 p101 q101
        cases e101
        replace p101 := eq_true p101
        replace q101 := eq_true q101
        have p102 : 0 ≤ (x5_1 : Int) := zD
        have q102 : x5_1 < (l1.length : Int) := zD
        obtain ⟨ad102, e102, hx102_0⟩ := Kd.at_int HR1.out x5_1 p102 q102
        cases e102
        replace p102 := eq_true p102
        replace q102 := eq_true q102
        go_wp2
        repeat (go_quiet (fail); try go_wp2)
        go_roundg k1
        case measure => have := HK1.out; omega
        case rel => exact ⟨(wrap64 (x5_1 + 1)), zS, H', ⟨by have := HK1.out; omega⟩, zW⟩
       rw [if_neg c7] at H
       have c7b0 := beq_eq_false_iff_ne.mpr c7
       have c7b1 := bne_iff_ne.mpr c7
       obtain rfl := Option.some.inj H
       have p101 : 0 ≤ (x5_1 : Int) := zD
       have q101 : x5_1 < (l0.length : Int) := zD
       obtain ⟨ad101, e101, hx101_0⟩ := Kd.at_int HR0.out x5_1 p101 q101
       cases e101
       replace p101 := eq_true p101
       replace q101 := eq_true q101
       have p102 : 0 ≤ (x5_1 : Int) := zD
       have q102 : x5_1 < (l1.length : Int) := zD
       obtain ⟨ad102, e102, hx102_0⟩ := Kd.at_int HR1.out x5_1 p102 q102
       cases e102
       replace p102 := eq_true p102
       replace q102 := eq_true q102
       go_wp2
       repeat (go_quiet (fail); try go_wp2)
       go_ret
       exact ⟨zS, zW⟩
      rw [if_neg c6] at H
      cases H
     rw [if_neg c5] at H
     cases H
    rw [if_neg c4] at H
    have c4b0 := decide_eq_false c4
    clear c4
    obtain rfl := Option.some.inj H
    go_wp2
    repeat (go_quiet (fail); try go_wp2)
    go_ret
    exact ⟨zS, zW⟩
 rw [if_neg c3] at H
 have c3b0 := beq_eq_false_iff_ne.mpr c3
 have c3b1 := bne_iff_ne.mpr c3
 have c3b2 : (l0.length == l1.length) = false := by first | simpa using c3 | (simp at c3 ⊢; omega)
 obtain rfl := Option.some.inj H
 go_enter Tryd.func81, Tryd.ntmps81
 go_wp2
 repeat (go_quiet (fail); try go_wp2)
 go_ret
 exact ⟨zS, zW⟩

def credenceref1_FracSame.f (k : Nat) (a0_0 : Bool) (l0_1 : List Int) (l0_2 : List Int) (a1_0 : Bool) (l1_1 : List Int) (l1_2 : List Int) : Option (Bool) := if (a0_0 == a1_0) = true then ((credenceref1_NatSame.f k l0_1 l1_1).bind fun t105 => (if t105 = true then ((credenceref1_NatSame.f k l0_2 l1_2).bind fun t106 => (some t106)) else (none))) else (none)
set_option maxHeartbeats 8000000 in
set_option maxRecDepth 100000 in
theorem credenceref1_FracSame.calls (k : Nat) (a0_0 : Bool) (A0_1 : Option Addr) (c0_1 : Nat) (l0_1 : List Int) (A0_2 : Option Addr) (c0_2 : Nat) (l0_2 : List Int) (a1_0 : Bool) (A1_1 : Option Addr) (c1_1 : Nat) (l1_1 : List Int) (A1_2 : Option Addr) (c1_2 : Nat) (l1_2 : List Int) (r : Bool) (w : World) (hr0_1 : Kd.C (Kd.int .u32) w A0_1 l0_1.length l0_1) (hc0_1 : l0_1.length ≤ c0_1) (hr0_2 : Kd.C (Kd.int .u32) w A0_2 l0_2.length l0_2) (hc0_2 : l0_2.length ≤ c0_2) (hr1_1 : Kd.C (Kd.int .u32) w A1_1 l1_1.length l1_1) (hc1_1 : l1_1.length ≤ c1_1) (hr1_2 : Kd.C (Kd.int .u32) w A1_2 l1_2.length l1_2) (hc1_2 : l1_2.length ≤ c1_2) (h : credenceref1_FracSame.f k a0_0 l0_1 l0_2 a1_0 l1_1 l1_2 = some r) :
 Calls Tryd.prog 50 #[.agg #[.bool a0_0, .slice A0_1 l0_1.length c0_1, .slice A0_2 l0_2.length c0_2], .agg #[.bool a1_0, .slice A1_1 l1_1.length c1_1, .slice A1_2 l1_2.length c1_2]] w fun e w' => e = .returned (.bool r) ∧ Below w.heap.size w w' := by
 have hu25 := Tryd.underlying25
 have HR0_1 := zA hr0_1
 have HC0_1 := zA hc0_1
 clear hr0_1 hc0_1
 have HR0_2 := zA hr0_2
 have HC0_2 := zA hc0_2
 clear hr0_2 hc0_2
 have HR1_1 := zA hr1_1
 have HC1_1 := zA hc1_1
 clear hr1_1 hc1_1
 have HR1_2 := zA hr1_2
 have HC1_2 := zA hc1_2
 clear hr1_2 hc1_2
 have HB := zA (Below.refl w.heap.size w)
 have H : (if (a0_0 == a1_0) = true then ((credenceref1_NatSame.f k l0_1 l1_1).bind fun t105 => (if t105 = true then ((credenceref1_NatSame.f k l0_2 l1_2).bind fun t106 => (some t106)) else (none))) else (none)) = some r := h
 clear h
 by_cases c3 : (a0_0 == a1_0) = true
 ·
  rw [if_pos c3] at H
  have c3b0 : (a0_0 == a1_0) = true := c3
  (try (have c3b1 : decide (a0_0 = a1_0) = true := by simpa using c3))
  (try (have c3b2 : (a0_0 == a1_0) = true := by simpa using c3))
  clear c3
  obtain ⟨t105, A40, H⟩ := zi H
  replace H : (if t105 = true then ((credenceref1_NatSame.f k l0_2 l1_2).bind fun t106 => (some t106)) else (none)) = some r := H
  have A4 := zA A40
  clear A40
  by_cases c5 : t105 = true
  ·
   subst c5
   have H1 : ((credenceref1_NatSame.f k l0_2 l1_2).bind fun t106 => (some t106)) = some r := by rw [if_pos rfl] at H; exact H
   clear H
   have H := H1
   clear H1
   obtain ⟨t106, A60, H⟩ := zi H
   replace H : (some t106) = some r := H
   have A6 := zA A60
   clear A60
   obtain rfl := Option.some.inj H
   go_enter Tryd.func50, Tryd.ntmps50
   have M221_0 : Aside0 True := ⟨trivial⟩
   have M221_1 : Aside0 True := ⟨trivial⟩
   go_wp2_with (first | ((with_reducible refine gate_dst (N := 2) rfl ?_); refine box_event ?hg (N := 2) ?hd (cs := #[.bool a0_0, .slice A0_1 l0_1.length c0_1, .slice A0_2 l0_2.length c0_2]) (t := 25) ?hr ?_; (case hd => rfl); (case hg => rfl); (case hr => first | (go_simp; done) | (go_simp; rfl)); intro gb103 hg w7 hbox hb; have BK103 := zA (hbox); have GW103 := zA ((by rw [hg]; exact (below_size (zb HB rfl)) : w.heap.size ≤ gb103)); have GE103 := zA ((by rw [hg]; exact (below_size (zb HB rfl)) : w.heap.size ≤ gb103)); replace HB := zbb HB hb rfl; clear hb hbox hg) | ((with_reducible refine gate_dst (N := 3) rfl ?_); refine box_event ?hg (N := 3) ?hd (cs := #[.bool a1_0, .slice A1_1 l1_1.length c1_1, .slice A1_2 l1_2.length c1_2]) (t := 25) ?hr ?_; (case hd => rfl); (case hg => rfl); (case hr => first | (go_simp; done) | (go_simp; rfl)); intro gb104 hg w8 hbox hb; have BK104 := zA (hbox); have GW104 := zA ((by rw [hg]; exact (below_size (zb HB rfl)) : w.heap.size ≤ gb104)); have GE104 := zA ((by rw [hg]; exact (below_size (zb HB rfl)) : w.heap.size ≤ gb104)); replace HB := zbb HB hb rfl; have NB103_104 := zA ((by rw [hg]; exact Nat.ne_of_lt (blk_lt BK103.out) : gb103 ≠ gb104)); have NB104_103 := zA ((by rw [hg]; exact Nat.ne_of_gt (blk_lt BK103.out) : gb104 ≠ gb103)); replace BK103 := zkb BK103 hb; clear hb hbox hg; have hnb9 := NB103_104.out; have hnc9 := NB104_103.out; have hcz10_0 := zc BK103 0 (v := .bool a0_0) rfl; have hcz10_1 := zc BK103 1 (v := .slice A0_1 l0_1.length c0_1) rfl; have hcz10_2 := zc BK103 2 (v := .slice A0_2 l0_2.length c0_2) rfl; have hfz10_0 := zF BK103 0; have hfz10_1 := zF BK103 1; have hfz10_2 := zF BK103 2; have hcz11_0 := zc BK104 0 (v := .bool a1_0) rfl; have hcz11_1 := zc BK104 1 (v := .slice A1_1 l1_1.length c1_1) rfl; have hcz11_2 := zc BK104 2 (v := .slice A1_2 l1_2.length c1_2) rfl; have hfz11_0 := zF BK104 0; have hfz11_1 := zF BK104 1; have hfz11_2 := zF BK104 2) | (go_at_call 81; clear M221_0; (with_reducible refine (credenceref1_NatSame.calls k _ _ l0_1 _ _ l1_1 true _ ?side1 ?side2 ?side3 ?side4 A4.out).mono ?_); (case side1 => exact zC (Kd.C_below HR0_1.out HB.out)); (case side2 => exact HC0_1.out); (case side3 => exact zC (Kd.C_below HR1_1.out HB.out)); (case side4 => exact HC1_1.out); rintro e w' ⟨rfl, ⟨nd, rfl⟩⟩) | (go_at_call 81; clear M221_1; (with_reducible refine (credenceref1_NatSame.calls k _ _ l0_2 _ _ l1_2 t106 _ ?side1 ?side2 ?side3 ?side4 A6.out).mono ?_); (case side1 => exact zC (Kd.C_below HR0_2.out (zb HB rfl))); (case side2 => exact HC0_2.out); (case side3 => exact zC (Kd.C_below HR1_2.out (zb HB rfl))); (case side4 => exact HC1_2.out); rintro e w' ⟨rfl, ⟨nd, rfl⟩⟩))
   go_ret
   exact ⟨zE, zG2 GE103.out GE104.out⟩
  replace c5 := Bool.eq_false_iff.mpr c5
  subst c5
  have H1 : (none) = some r := by rw [if_neg (show ¬ (false = true) by decide)] at H; exact H
  clear H
  have H := H1
  clear H1
  cases H
 rw [if_neg c3] at H
 cases H

def credencelaw2_same.f (k : Nat) (a0_0 : Bool) (l0_1 : List Int) (l0_2 : List Int) (a1_0 : Bool) (l1_1 : List Int) (l1_2 : List Int) : Option (Bool) := (credenceref1_FracSame.f k a0_0 l0_1 l0_2 a1_0 l1_1 l1_2).bind fun t109 => (some t109)
set_option maxHeartbeats 8000000 in
set_option maxRecDepth 100000 in
theorem credencelaw2_same.calls (k : Nat) (a0_0 : Bool) (A0_1 : Option Addr) (c0_1 : Nat) (l0_1 : List Int) (A0_2 : Option Addr) (c0_2 : Nat) (l0_2 : List Int) (a1_0 : Bool) (A1_1 : Option Addr) (c1_1 : Nat) (l1_1 : List Int) (A1_2 : Option Addr) (c1_2 : Nat) (l1_2 : List Int) (r : Bool) (w : World) (hr0_1 : Kd.C (Kd.int .u32) w A0_1 l0_1.length l0_1) (hc0_1 : l0_1.length ≤ c0_1) (hr0_2 : Kd.C (Kd.int .u32) w A0_2 l0_2.length l0_2) (hc0_2 : l0_2.length ≤ c0_2) (hr1_1 : Kd.C (Kd.int .u32) w A1_1 l1_1.length l1_1) (hc1_1 : l1_1.length ≤ c1_1) (hr1_2 : Kd.C (Kd.int .u32) w A1_2 l1_2.length l1_2) (hc1_2 : l1_2.length ≤ c1_2) (h : credencelaw2_same.f k a0_0 l0_1 l0_2 a1_0 l1_1 l1_2 = some r) :
 Calls Tryd.prog 13 #[.agg #[.bool a0_0, .slice A0_1 l0_1.length c0_1, .slice A0_2 l0_2.length c0_2], .agg #[.bool a1_0, .slice A1_1 l1_1.length c1_1, .slice A1_2 l1_2.length c1_2]] w fun e w' => e = .returned (.bool r) ∧ Below w.heap.size w w' := by
 have hu25 := Tryd.underlying25
 have HR0_1 := zA hr0_1
 have HC0_1 := zA hc0_1
 clear hr0_1 hc0_1
 have HR0_2 := zA hr0_2
 have HC0_2 := zA hc0_2
 clear hr0_2 hc0_2
 have HR1_1 := zA hr1_1
 have HC1_1 := zA hc1_1
 clear hr1_1 hc1_1
 have HR1_2 := zA hr1_2
 have HC1_2 := zA hc1_2
 clear hr1_2 hc1_2
 have HB := zA (Below.refl w.heap.size w)
 have H : ((credenceref1_FracSame.f k a0_0 l0_1 l0_2 a1_0 l1_1 l1_2).bind fun t109 => (some t109)) = some r := h
 clear h
 obtain ⟨t109, A30, H⟩ := zi H
 replace H : (some t109) = some r := H
 have A3 := zA A30
 clear A30
 obtain rfl := Option.some.inj H
 go_enter Tryd.func13, Tryd.ntmps13
 go_wp2_with (first | ((with_reducible refine gate_dst (N := 2) rfl ?_); refine box_event ?hg (N := 2) ?hd (cs := #[.bool a0_0, .slice A0_1 l0_1.length c0_1, .slice A0_2 l0_2.length c0_2]) (t := 25) ?hr ?_; (case hd => rfl); (case hg => rfl); (case hr => first | (go_simp; done) | (go_simp; rfl)); intro gb107 hg w4 hbox hb; have BK107 := zA (hbox); have GW107 := zA ((by rw [hg]; exact (below_size (zb HB rfl)) : w.heap.size ≤ gb107)); have GE107 := zA ((by rw [hg]; exact (below_size (zb HB rfl)) : w.heap.size ≤ gb107)); replace HB := zbb HB hb rfl; clear hb hbox hg) | ((with_reducible refine gate_dst (N := 3) rfl ?_); refine box_event ?hg (N := 3) ?hd (cs := #[.bool a1_0, .slice A1_1 l1_1.length c1_1, .slice A1_2 l1_2.length c1_2]) (t := 25) ?hr ?_; (case hd => rfl); (case hg => rfl); (case hr => first | (go_simp; done) | (go_simp; rfl)); intro gb108 hg w5 hbox hb; have BK108 := zA (hbox); have GW108 := zA ((by rw [hg]; exact (below_size (zb HB rfl)) : w.heap.size ≤ gb108)); have GE108 := zA ((by rw [hg]; exact (below_size (zb HB rfl)) : w.heap.size ≤ gb108)); replace HB := zbb HB hb rfl; have NB107_108 := zA ((by rw [hg]; exact Nat.ne_of_lt (blk_lt BK107.out) : gb107 ≠ gb108)); have NB108_107 := zA ((by rw [hg]; exact Nat.ne_of_gt (blk_lt BK107.out) : gb108 ≠ gb107)); replace BK107 := zkb BK107 hb; clear hb hbox hg; have hnb6 := NB107_108.out; have hnc6 := NB108_107.out; have hcz7_0 := zc BK107 0 (v := .bool a0_0) rfl; have hcz7_1 := zc BK107 1 (v := .slice A0_1 l0_1.length c0_1) rfl; have hcz7_2 := zc BK107 2 (v := .slice A0_2 l0_2.length c0_2) rfl; have hfz7_0 := zF BK107 0; have hfz7_1 := zF BK107 1; have hfz7_2 := zF BK107 2; have hcz8_0 := zc BK108 0 (v := .bool a1_0) rfl; have hcz8_1 := zc BK108 1 (v := .slice A1_1 l1_1.length c1_1) rfl; have hcz8_2 := zc BK108 2 (v := .slice A1_2 l1_2.length c1_2) rfl; have hfz8_0 := zF BK108 0; have hfz8_1 := zF BK108 1; have hfz8_2 := zF BK108 2) | ((with_reducible refine gate_callee (f := 50) rfl ?_); refine goesL_ (some 7) rfl rfl Tryd.func50 zk rfl #[.agg #[.bool a0_0, .slice A0_1 l0_1.length c0_1, .slice A0_2 l0_2.length c0_2], .agg #[.bool a1_0, .slice A1_1 l1_1.length c1_1, .slice A1_2 l1_2.length c1_2]] rfl zX ?_; (with_reducible refine (credenceref1_FracSame.calls k a0_0 _ _ l0_1 _ _ l0_2 a1_0 _ _ l1_1 _ _ l1_2 t109 _ ?side1 ?side2 ?side3 ?side4 ?side5 ?side6 ?side7 ?side8 A3.out).mono ?_); (case side1 => exact zC (Kd.C_below HR0_1.out HB.out)); (case side2 => exact HC0_1.out); (case side3 => exact zC (Kd.C_below HR0_2.out HB.out)); (case side4 => exact HC0_2.out); (case side5 => exact zC (Kd.C_below HR1_1.out HB.out)); (case side6 => exact HC1_1.out); (case side7 => exact zC (Kd.C_below HR1_2.out HB.out)); (case side8 => exact HC1_2.out); rintro e w9 ⟨rfl, hb⟩; refine ⟨_, rfl, ?_⟩; replace BK107 := zkb BK107 hb; replace BK108 := zkb BK108 hb; replace HB := zbb HB hb rfl))
 go_ret
 exact ⟨zE, zG2 GE107.out GE108.out⟩

def rational_one.f  : Option (List Int) := some (([1] : List Int))
set_option maxHeartbeats 8000000 in
set_option maxRecDepth 100000 in
theorem rational_one.calls  (r : List Int) (w : World) (h : rational_one.f  = some r) :
 Calls Tryd.prog 56 #[] w fun e w' => ∃ v0_ : Value, e = .returned (v0_) ∧ Kd.R (Kd.int .u32) 37 w' w.heap.size (fun _ => True) v0_ r ∧ Below w.heap.size w w' := by
 have HB := zA (Below.refl w.heap.size w)
 have H : (some (([1] : List Int))) = some r := h
 clear h
 obtain ⟨y110, hy110⟩ : ∃ y_ : List Int, y_ = (([1] : List Int)) := ⟨_, rfl⟩
 replace H : (some y110) = some r := by first | (rw [hy110]; with_reducible exact H) | (have H2_ := (Option.bind_some _ _).symm.trans H; rw [hy110]; with_reducible exact H2_) | (have H2_ := (Option.bind_some _ _).symm.trans H; with_reducible exact H2_) | with_reducible exact H | (rw [hy110]; exact H) | exact H
 have Ny110 := zA hy110
 clear hy110
 obtain rfl := Option.some.inj H
 go_enter Tryd.func56, Tryd.ntmps56
 go_wp2_with (first | ((with_reducible refine gate_dst (N := 1) rfl ?_); refine Kd.R_lit (Kd.int .u32) _ 37 ?hg (N := 1) ?hd (xs := ([1] : List Int)) (inner := [.int .u32 1]) (ok := fun _ => True) (okp := fun _ => True) ?hr ?hp (fun _ hk => hk) trivial (Below.refl _ _) (Nat.le_refl _) (by simp) ?_; (case hd => rfl); (case hg => rfl); (case hr => first | (go_simp; done) | (go_simp; rfl)); (case hp => exact (Reps.one (show Kd.M (Kd.int .u32) _ _ _ 1 [.int .u32 1] from rfl) (Reps.none _ _))); intro v111 w1 ho2 hb hg_ hnew_; clear hg_ hnew_; (first | rw [← Ny110.out] at ho2 | (simp only [Int.reduceToNat] at ho2; rw [← Ny110.out] at ho2)); have HO112 := zA (Kd.R_lower ho2 (below_size zH)); replace HB := zA (below_step zH hb); clear hb ho2))
 go_ret
 exact ⟨_, zE, zR HO112.out, zH⟩

def bignat_trim.l0 : Nat → List Int → Int → Option (List Int)
 | 0, _, _ => none
 | k + 1, x0, x3 => if x3 > 0 then (if 0 ≤ (wrap64 (x3 - 1)) then (if (wrap64 (x3 - 1)) < (x0.length : Int) then (if (rd x0 (wrap64 (x3 - 1))) = 0 then (bignat_trim.l0 k x0 (wrap64 (x3 - 1))) else (if 0 ≤ x3 then (if x3 ≤ (x0.length : Int) then (some (x0.take (x3 : Int).toNat)) else (none)) else (none))) else (none)) else (none)) else (if 0 ≤ x3 then (if x3 ≤ (x0.length : Int) then (some (x0.take (x3 : Int).toNat)) else (none)) else (none))
def bignat_trim.f (k : Nat) (l0 : List Int) : Option (List Int) := bignat_trim.l0 k l0 (l0.length : Int)
theorem bignat_trim.mono_l : ∀ k, (∀ y0 y1, LeO (bignat_trim.l0 k y0 y1) (bignat_trim.l0 (k + 1) y0 y1))
 | 0 => fun _ _ r h => by simp [bignat_trim.l0] at h
 | k + 1 => by
  have ih0 := bignat_trim.mono_l k
  intro y0 y1
  unfold bignat_trim.l0
  exact zm1 ih0
theorem bignat_trim.mono : ∀ a0 k, LeO (bignat_trim.f k a0) (bignat_trim.f (k + 1) a0) := by
 intro a0 k
 have ih0 := bignat_trim.mono_l k
 unfold bignat_trim.f
 exact zm1 ih0
set_option maxHeartbeats 8000000 in
set_option maxRecDepth 100000 in
theorem bignat_trim.calls (k : Nat) (P0_ : Nat → Prop) (A0 : Option Addr) (c0 : Nat) (l0 : List Int) (r : List Int) (w : World) (hs0 : Kd.V (Kd.int .u32) 37 w w.heap.size (fun k_ => P0_ k_) (.slice A0 l0.length c0) l0) (h : bignat_trim.f k l0 = some r) :
 Calls Tryd.prog 71 #[.slice A0 l0.length c0] w fun e w' => ∃ v0_ : Value, e = .returned (v0_) ∧ Kd.V (Kd.int .u32) 37 w' w.heap.size (fun k_ => (P0_ k_ ∨ w.heap.size ≤ k_)) v0_ r ∧ Below w.heap.size w w' := by
 have HO0 := zA (show Kd.V (Kd.int .u32) 37 w w.heap.size (fun k_ => (P0_ k_ ∨ w.heap.size ≤ k_)) (.slice A0 l0.length c0) l0 from Kd.V_mono hs0 (fun k_ hk => .inl hk))
 have HB := zA (Below.refl w.heap.size w)
 have H : (bignat_trim.l0 k l0 (l0.length : Int)) = some r := h
 clear h
 have H' := zA H
 clear H
 go_enter Tryd.func71, Tryd.ntmps71
 go_wp2
 go_loopg [3] k (fun kq v3 w' => ∃ (x3_1 : Int), v3 = .int .i64 x3_1 ∧ Aside0 (bignat_trim.l0 kq l0 x3_1 = some r) ∧ Aside0 (kq ≤ k) ∧ Aside0 (Kd.V (Kd.int .u32) 37 w' w.heap.size (fun k_ => (P0_ k_ ∨ w.heap.size ≤ k_)) (.slice A0 l0.length c0) l0) ∧ Aside0 (Below w.heap.size w w'))
 case atStart => exact ⟨((l0.length : Int)), zS, H', ⟨Nat.le_refl _⟩, ⟨zV HO0.out⟩, ⟨zH⟩⟩
 case round =>
  clear H'
  obtain ⟨x3_1, rfl, HA, HK1, HO_0, HB⟩ := hrel
  cases gk with
  | zero => exact absurd HA.out (by simp [bignat_trim.l0])
  | succ k1 =>
   have H := HA.out
   clear HA
   simp only [bignat_trim.l0] at H
   by_cases c2 : x3_1 > 0
   ·
    rw [if_pos c2] at H
    have c2b0 : decide (0 < x3_1) = true := decide_eq_true c2
    clear c2
    obtain ⟨ji3, hji3⟩ : ∃ j_ : Int, (wrap64 (x3_1 - 1)) = j_ := ⟨_, rfl⟩
    replace H : (if 0 ≤ (ji3) then (if (ji3) < (l0.length : Int) then (if (rd l0 (ji3)) = 0 then (bignat_trim.l0 k1 l0 ji3) else (if 0 ≤ x3_1 then (if x3_1 ≤ (l0.length : Int) then (some (l0.take (x3_1 : Int).toNat)) else (none)) else (none))) else (none)) else (none)) = some r := by first | (rw [hji3] at H; exact H) | (simp only [hji3] at H ⊢; exact H)
    have hji3w : (IntKind.i64.wrap (x3_1 - 1)) = ji3 := (i64_w _).trans hji3
    by_cases c4 : 0 ≤ (ji3)
    ·
     rw [if_pos c4] at H
     have c4b0 := decide_eq_true c4
     clear c4
     by_cases c5 : (ji3) < (l0.length : Int)
     ·
      rw [if_pos c5] at H
      have c5b0 := decide_eq_true c5
      clear c5
      by_cases c6 : (rd l0 (ji3)) = 0
      ·
       rw [if_pos c6] at H
       have c6b0 := beq_iff_eq.mpr c6
       have c6b1 := bne_eq_false_iff_eq.mpr c6
       clear c6
       have H' := zA H
       clear H
       have p113 : 0 ≤ ((ji3) : Int) := zD
       have q113 : (ji3) < (l0.length : Int) := zD
       obtain ⟨ad113, e113, hx113_0⟩ := Kd.at_int (Kd.V_reads' HO_0.out).2.2 (ji3) p113 q113
       cases e113
       replace p113 := eq_true p113
       replace q113 := eq_true q113
       go_wp2
       go_roundg k1
       case measure => have := HK1.out; omega
       case rel => exact ⟨(ji3), (by first | rfl | (simp; done) | (simp only [← hji3] <;> (first | rfl | simp)) | (simp [*]; done)), H', ⟨by have := HK1.out; omega⟩, ⟨zV HO_0.out⟩, ⟨zH⟩⟩
      rw [if_neg c6] at H
      have c6b0 := beq_eq_false_iff_ne.mpr c6
      have c6b1 := bne_iff_ne.mpr c6
      by_cases c7 : 0 ≤ x3_1
      ·
       rw [if_pos c7] at H
       have c7b0 := eq_true c7
       have c7b1 := decide_eq_true c7
       clear c7
       by_cases c8 : x3_1 ≤ (l0.length : Int)
       ·
        rw [if_pos c8] at H
        have c8b0 := eq_true c8
        have c8b1 := decide_eq_true c8
        clear c8
        obtain ⟨y114, hy114⟩ : ∃ y_ : List Int, y_ = (l0.take (x3_1 : Int).toNat) := ⟨_, rfl⟩
        replace H : (some y114) = some r := by first | (rw [hy114]; with_reducible exact H) | (have H2_ := (Option.bind_some _ _).symm.trans H; rw [hy114]; with_reducible exact H2_) | (have H2_ := (Option.bind_some _ _).symm.trans H; with_reducible exact H2_) | with_reducible exact H | (rw [hy114]; exact H) | exact H
        have Ny114 := zA hy114
        clear hy114
        obtain rfl := Option.some.inj H
        have p113 : 0 ≤ ((ji3) : Int) := zD
        have q113 : (ji3) < (l0.length : Int) := zD
        obtain ⟨ad113, e113, hx113_0⟩ := Kd.at_int (Kd.V_reads' HO_0.out).2.2 (ji3) p113 q113
        cases e113
        replace p113 := eq_true p113
        replace q113 := eq_true q113
        have q9 : (x3_1 : Int) ≤ ((l0.length : Int) : Int) := zD
        obtain ⟨i09, hi09, _, hsz9, _⟩ := info_parts info37
        have hroom9 : l0.length ≤ c0 := (Kd.V_reads' HO_0.out).2.1
        have hC9 : Kd.F (Kd.int .u32) _ _ (some ad113) l0.length l0 := (Kd.V_at (base := w.heap.size) HO_0.out).2.2
        have hcut9 := cut_to (P := Tryd.prog) 23 37 .i64 Tryd.underlying23 hi09 (some ad113) l0.length c0 x3_1 zD q9 hroom9
        have hr9 := Kd.F_take (m := (x3_1 : Int).toNat) hC9 (by omega)
        have hy9 : y114.length = (x3_1 : Int).toNat := (by rw [Ny114.out, List.length_take]; omega)
        rw [← Ny114.out] at hr9
        rw [← hy9] at hcut9
        have HO118 := zA (show Kd.V (Kd.int .u32) 37 _ w.heap.size _ (.slice (some ad113) y114.length c0) y114 from Kd.V_mk (by omega) hr9)
        have HC118 := zA (show y114.length ≤ c0 from by omega)
        clear hr9 hC9 hroom9 hi09 hsz9
        have KY9 := zA hy9
        clear hy9
        replace q9 := eq_true q9
        go_wp2
        go_ret
        exact ⟨_, by first | rfl | (simp [errW_none, errW_some] <;> rfl) | (simp only [← hji3]; first | rfl | (simp [errW_none, errW_some] <;> rfl)) | (simp [*, errW_none, errW_some] <;> rfl), zV HO118.out, zH⟩
       rw [if_neg c8] at H
       cases H
      rw [if_neg c7] at H
      cases H
     rw [if_neg c5] at H
     cases H
    rw [if_neg c4] at H
    cases H
   rw [if_neg c2] at H
   have c2b0 : decide (0 < x3_1) = false := decide_eq_false c2
   clear c2
   by_cases c10 : 0 ≤ x3_1
   ·
    rw [if_pos c10] at H
    have c10b0 := eq_true c10
    have c10b1 := decide_eq_true c10
    clear c10
    by_cases c11 : x3_1 ≤ (l0.length : Int)
    ·
     rw [if_pos c11] at H
     have c11b0 := eq_true c11
     have c11b1 := decide_eq_true c11
     clear c11
     obtain ⟨y119, hy119⟩ : ∃ y_ : List Int, y_ = (l0.take (x3_1 : Int).toNat) := ⟨_, rfl⟩
     replace H : (some y119) = some r := by first | (rw [hy119]; with_reducible exact H) | (have H2_ := (Option.bind_some _ _).symm.trans H; rw [hy119]; with_reducible exact H2_) | (have H2_ := (Option.bind_some _ _).symm.trans H; with_reducible exact H2_) | with_reducible exact H | (rw [hy119]; exact H) | exact H
     have Ny119 := zA hy119
     clear hy119
     obtain rfl := Option.some.inj H
     have q12 : (x3_1 : Int) ≤ ((l0.length : Int) : Int) := zD
     obtain ⟨i012, hi012, _, hsz12, _⟩ := info_parts info37
     have hroom12 : l0.length ≤ c0 := (Kd.V_reads' HO_0.out).2.1
     have hC12 : Kd.F (Kd.int .u32) _ _ A0 l0.length l0 := (Kd.V_at (base := w.heap.size) HO_0.out).2.2
     have hcut12 := cut_to (P := Tryd.prog) 23 37 .i64 Tryd.underlying23 hi012 A0 l0.length c0 x3_1 zD q12 hroom12
     have hr12 := Kd.F_take (m := (x3_1 : Int).toNat) hC12 (by omega)
     have hy12 : y119.length = (x3_1 : Int).toNat := (by rw [Ny119.out, List.length_take]; omega)
     rw [← Ny119.out] at hr12
     rw [← hy12] at hcut12
     have HO123 := zA (show Kd.V (Kd.int .u32) 37 _ w.heap.size _ (.slice A0 y119.length c0) y119 from Kd.V_mk (by omega) hr12)
     have HC123 := zA (show y119.length ≤ c0 from by omega)
     clear hr12 hC12 hroom12 hi012 hsz12
     have KY12 := zA hy12
     clear hy12
     replace q12 := eq_true q12
     go_wp2
     go_ret
     exact ⟨_, zE, zV HO123.out, zH⟩
    rw [if_neg c11] at H
    cases H
   rw [if_neg c10] at H
   cases H

set_option maxHeartbeats 8000000 in
set_option maxRecDepth 100000 in
theorem bignat_trimO.calls (k : Nat) (P0_ : Nat → Prop) (u9000_ : Value) (l0 : List Int) (r : List Int) (w0 w : World) (hB : Below w0.heap.size w0 w) (ho0 : Kd.R (Kd.int .u32) 37 w w0.heap.size P0_ u9000_ l0) (h : bignat_trim.f k l0 = some r) :
 Calls Tryd.prog 71 #[u9000_] w fun e w' => ∃ v0_ : Value, e = .returned (v0_) ∧ Kd.R (Kd.int .u32) 37 w' w0.heap.size (fun k_ => (P0_ k_ ∨ w.heap.size ≤ k_)) v0_ r ∧ Below w0.heap.size w0 w' ∧ Kept w w' (fun k_ => P0_ k_) := by
 have HO0 := zA (show Kd.R (Kd.int .u32) 37 w w0.heap.size (fun k_ => (P0_ k_ ∨ w.heap.size ≤ k_)) u9000_ l0 from Kd.R_mono ho0 (fun k_ hk => (.inl hk)))
 have HK := zA (Kept.refl w (fun k_ => P0_ k_))
 have HW0 := zA hB.size
 have HB := zA hB
 clear hB
 have H : (bignat_trim.l0 k l0 (l0.length : Int)) = some r := h
 clear h
 have H' := zA H
 clear H
 obtain ⟨Ao2, co2, eo2⟩ := Kd.R_slice HO0.out
 subst eo2
 go_enter Tryd.func71, Tryd.ntmps71
 go_wp2
 go_loopg [3] k (fun kq v3 w' => ∃ (x3_1 : Int), v3 = .int .i64 x3_1 ∧ Aside0 (bignat_trim.l0 kq l0 x3_1 = some r) ∧ Aside0 (kq ≤ k) ∧ Aside0 (Kd.R (Kd.int .u32) 37 w' w0.heap.size (fun k_ => (P0_ k_ ∨ w.heap.size ≤ k_)) (.slice Ao2 l0.length co2) l0) ∧ Aside0 (Kept w w' (fun k_ => P0_ k_)) ∧ Aside0 (Below w0.heap.size w0 w'))
 case atStart => exact ⟨((l0.length : Int)), zS, H', ⟨Nat.le_refl _⟩, ⟨zR HO0.out⟩, ⟨zK⟩, ⟨zH⟩⟩
 case round =>
  clear H'
  try clear p2
  obtain ⟨x3_1, rfl, HA, HK1, HO_0, HK, HB⟩ := hrel
  cases gk with
  | zero => exact absurd HA.out (by simp [bignat_trim.l0])
  | succ k1 =>
   have H := HA.out
   clear HA
   simp only [bignat_trim.l0] at H
   by_cases c3 : x3_1 > 0
   ·
    rw [if_pos c3] at H
    have c3b0 : decide (0 < x3_1) = true := decide_eq_true c3
    clear c3
    obtain ⟨ji4, hji4⟩ : ∃ j_ : Int, (wrap64 (x3_1 - 1)) = j_ := ⟨_, rfl⟩
    replace H : (if 0 ≤ (ji4) then (if (ji4) < (l0.length : Int) then (if (rd l0 (ji4)) = 0 then (bignat_trim.l0 k1 l0 ji4) else (if 0 ≤ x3_1 then (if x3_1 ≤ (l0.length : Int) then (some (l0.take (x3_1 : Int).toNat)) else (none)) else (none))) else (none)) else (none)) = some r := by first | (rw [hji4] at H; exact H) | (simp only [hji4] at H ⊢; exact H)
    have hji4w : (IntKind.i64.wrap (x3_1 - 1)) = ji4 := (i64_w _).trans hji4
    (try (have hji4r := hji4; simp only [hji3] at hji4r))
    (try (have hji4wr := hji4w; simp only [hji3] at hji4wr))
    by_cases c5 : 0 ≤ (ji4)
    ·
     rw [if_pos c5] at H
     have c5b0 := decide_eq_true c5
     clear c5
     by_cases c6 : (ji4) < (l0.length : Int)
     ·
      rw [if_pos c6] at H
      have c6b0 := decide_eq_true c6
      clear c6
      by_cases c7 : (rd l0 (ji4)) = 0
      ·
       rw [if_pos c7] at H
       have c7b0 := beq_iff_eq.mpr c7
       have c7b1 := bne_eq_false_iff_eq.mpr c7
       clear c7
       have H' := zA H
       clear H
       have p124 : 0 ≤ ((ji4) : Int) := zD
       have q124 : (ji4) < (l0.length : Int) := zD
       obtain ⟨ad124, e124, hx124_0⟩ := Kd.at_int (Kd.R_reads' HO_0.out).2.2 (ji4) p124 q124
       cases e124
       replace p124 := eq_true p124
       replace q124 := eq_true q124
       go_wp2
       go_roundg k1
       case measure => have := HK1.out; omega
       case rel => exact ⟨(ji4), (by first | rfl | (simp; done) | (simp only [← hji4] <;> (first | rfl | simp)) | (simp [*]; done)), H', ⟨by have := HK1.out; omega⟩, ⟨zR HO_0.out⟩, ⟨zK⟩, ⟨zH⟩⟩
      rw [if_neg c7] at H
      have c7b0 := beq_eq_false_iff_ne.mpr c7
      have c7b1 := bne_iff_ne.mpr c7
      by_cases c8 : 0 ≤ x3_1
      ·
       rw [if_pos c8] at H
       have c8b0 := eq_true c8
       have c8b1 := decide_eq_true c8
       clear c8
       by_cases c9 : x3_1 ≤ (l0.length : Int)
       ·
        rw [if_pos c9] at H
        have c9b0 := eq_true c9
        have c9b1 := decide_eq_true c9
        clear c9
        obtain ⟨y125, hy125⟩ : ∃ y_ : List Int, y_ = (l0.take (x3_1 : Int).toNat) := ⟨_, rfl⟩
        replace H : (some y125) = some r := by first | (rw [hy125]; with_reducible exact H) | (have H2_ := (Option.bind_some _ _).symm.trans H; rw [hy125]; with_reducible exact H2_) | (have H2_ := (Option.bind_some _ _).symm.trans H; with_reducible exact H2_) | with_reducible exact H | (rw [hy125]; exact H) | exact H
        have Ny125 := zA hy125
        clear hy125
        obtain rfl := Option.some.inj H
        have p124 : 0 ≤ ((ji4) : Int) := zD
        have q124 : (ji4) < (l0.length : Int) := zD
        obtain ⟨ad124, e124, hx124_0⟩ := Kd.at_int (Kd.R_reads' HO_0.out).2.2 (ji4) p124 q124
        cases e124
        replace p124 := eq_true p124
        replace q124 := eq_true q124
        have q10 : (x3_1 : Int) ≤ ((l0.length : Int) : Int) := zD
        obtain ⟨i010, hi010, _, hsz10, _⟩ := info_parts info37
        have hcut10 := cut_to (P := Tryd.prog) 23 37 .i64 Tryd.underlying23 hi010 (some ad124) l0.length co2 x3_1 zD q10 (Kd.R_reads' HO_0.out).2.1
        have hr10 := Kd.R_take (m := (x3_1 : Int).toNat) HO_0.out (by omega)
        have hy10 : y125.length = (x3_1 : Int).toNat := (by rw [Ny125.out, List.length_take]; omega)
        rw [← Ny125.out] at hr10
        rw [← hy10] at hr10 hcut10
        clear hy10 hi010 hsz10 HO_0
        have HO127 := zA hr10
        clear hr10
        replace q10 := eq_true q10
        go_wp2
        go_ret
        exact ⟨_, by first | rfl | (simp [errW_none, errW_some] <;> rfl) | (simp only [← hji4]; first | rfl | (simp [errW_none, errW_some] <;> rfl)) | (simp [*, errW_none, errW_some] <;> rfl), zR HO127.out, zH, zK⟩
       rw [if_neg c9] at H
       cases H
      rw [if_neg c8] at H
      cases H
     rw [if_neg c6] at H
     cases H
    rw [if_neg c5] at H
    cases H
   rw [if_neg c3] at H
   have c3b0 : decide (0 < x3_1) = false := decide_eq_false c3
   clear c3
   by_cases c11 : 0 ≤ x3_1
   ·
    rw [if_pos c11] at H
    have c11b0 := eq_true c11
    have c11b1 := decide_eq_true c11
    clear c11
    by_cases c12 : x3_1 ≤ (l0.length : Int)
    ·
     rw [if_pos c12] at H
     have c12b0 := eq_true c12
     have c12b1 := decide_eq_true c12
     clear c12
     obtain ⟨y128, hy128⟩ : ∃ y_ : List Int, y_ = (l0.take (x3_1 : Int).toNat) := ⟨_, rfl⟩
     replace H : (some y128) = some r := by first | (rw [hy128]; with_reducible exact H) | (have H2_ := (Option.bind_some _ _).symm.trans H; rw [hy128]; with_reducible exact H2_) | (have H2_ := (Option.bind_some _ _).symm.trans H; with_reducible exact H2_) | with_reducible exact H | (rw [hy128]; exact H) | exact H
     have Ny128 := zA hy128
     clear hy128
     obtain rfl := Option.some.inj H
     have q13 : (x3_1 : Int) ≤ ((l0.length : Int) : Int) := zD
     obtain ⟨i013, hi013, _, hsz13, _⟩ := info_parts info37
     have hcut13 := cut_to (P := Tryd.prog) 23 37 .i64 Tryd.underlying23 hi013 Ao2 l0.length co2 x3_1 zD q13 (Kd.R_reads' HO_0.out).2.1
     have hr13 := Kd.R_take (m := (x3_1 : Int).toNat) HO_0.out (by omega)
     have hy13 : y128.length = (x3_1 : Int).toNat := (by rw [Ny128.out, List.length_take]; omega)
     rw [← Ny128.out] at hr13
     rw [← hy13] at hr13 hcut13
     clear hy13 hi013 hsz13 HO_0
     have HO130 := zA hr13
     clear hr13
     replace q13 := eq_true q13
     go_wp2
     go_ret
     exact ⟨_, zE, zR HO130.out, zH, zK⟩
    rw [if_neg c12] at H
    cases H
   rw [if_neg c11] at H
   cases H

def bignat_clone.f (k : Nat) (l0 : List Int) : Option (List Int) := (bignat_trim.f k l0).bind fun t131 => (if (t131.length : Int) = 0 then (some ([] : List Int)) else (if ([] : List Int).length + t131.length < 35184372088832 then (some (([] : List Int) ++ t131)) else (none)))
theorem bignat_clone.mono : ∀ a0 k, LeO (bignat_clone.f k a0) (bignat_clone.f (k + 1) a0) := by
 intro a0 k
 unfold bignat_clone.f
 exact zm1 bignat_trim.mono
set_option maxHeartbeats 8000000 in
set_option maxRecDepth 100000 in
theorem bignat_clone.calls (k : Nat) (A0 : Option Addr) (c0 : Nat) (l0 : List Int) (r : List Int) (w : World) (hr0 : Kd.C (Kd.int .u32) w A0 l0.length l0) (hc0 : l0.length ≤ c0) (h : bignat_clone.f k l0 = some r) :
 Calls Tryd.prog 64 #[.slice A0 l0.length c0] w fun e w' => ∃ v0_ : Value, e = .returned (v0_) ∧ Kd.R (Kd.int .u32) 37 w' w.heap.size (fun _ => True) v0_ r ∧ Below w.heap.size w w' := by
 have HR0 := zA hr0
 have HC0 := zA hc0
 clear hr0 hc0
 have HB := zA (Below.refl w.heap.size w)
 have H : ((bignat_trim.f k l0).bind fun t131 => (if (t131.length : Int) = 0 then (some ([] : List Int)) else (if ([] : List Int).length + t131.length < 35184372088832 then (some (([] : List Int) ++ t131)) else (none)))) = some r := h
 clear h
 obtain ⟨t131, A20, H⟩ := zi H
 replace H : (if (t131.length : Int) = 0 then (some ([] : List Int)) else (if ([] : List Int).length + t131.length < 35184372088832 then (some (([] : List Int) ++ t131)) else (none))) = some r := H
 have A2 := zA A20
 clear A20
 by_cases c3 : (t131.length : Int) = 0
 ·
  rw [if_pos c3] at H
  have c3b0 := beq_iff_eq.mpr c3
  have c3b1 := bne_eq_false_iff_eq.mpr c3
  clear c3
  obtain rfl := Option.some.inj H
  go_enter Tryd.func64, Tryd.ntmps64
  go_wp2_with (first | ((with_reducible refine gate_callee (f := 71) rfl ?_); refine goesL_ (some 4) rfl rfl Tryd.func71 zk rfl #[.slice A0 l0.length c0] rfl zX ?_; (with_reducible refine (bignat_trim.calls k (fun k_ => k_ < w.heap.size) _ _ l0 t131 _ ?side1 A2.out).mono ?_); (case side1 => exact Kd.V_mk HC0.out (Kd.F_below (Kd.C_F (Kd.heap_int .u32) HR0.out) (zb HB rfl))); rintro e w4 ⟨v132, rfl, ho0, hb⟩; refine ⟨_, rfl, ?_⟩; have HO133 := zA (Kd.V_lower (Kd.V_mono (ok' := fun k_ => True) ho0 (fun k_ hk_ => trivial)) (below_size (zb HB rfl))); replace HB := zbb HB hb rfl; obtain ⟨Ao5, co5, eo5⟩ := Kd.V_slice HO133.out; subst eo5))
  go_ret
  exact ⟨_, zE, by first | exact Kd.R_nil _ _ _ _ _ | exact Kd.V_nil _ _ _ _ _, zH⟩
 rw [if_neg c3] at H
 have c3b0 := beq_eq_false_iff_ne.mpr c3
 have c3b1 := bne_iff_ne.mpr c3
 have c3b2 : ¬ (t131 = []) := fun h_ => c3 (by rw [h_]; rfl)
 by_cases c6 : ([] : List Int).length + t131.length < 35184372088832
 ·
  rw [if_pos c6] at H
  have LMc6 := zA c6
  clear c6
  obtain ⟨y134, hy134⟩ : ∃ y_ : List Int, y_ = (([] : List Int) ++ t131) := ⟨_, rfl⟩
  replace H : (some y134) = some r := by first | (rw [hy134]; with_reducible exact H) | (have H2_ := (Option.bind_some _ _).symm.trans H; rw [hy134]; with_reducible exact H2_) | (have H2_ := (Option.bind_some _ _).symm.trans H; with_reducible exact H2_) | with_reducible exact H | (rw [hy134]; exact H) | exact H
  have Ny134 := zA hy134
  clear hy134
  obtain rfl := Option.some.inj H
  go_enter Tryd.func64, Tryd.ntmps64
  go_wp2_with (first | ((with_reducible refine gate_callee (f := 71) rfl ?_); refine goesL_ (some 4) rfl rfl Tryd.func71 zk rfl #[.slice A0 l0.length c0] rfl zX ?_; (with_reducible refine (bignat_trim.calls k (fun k_ => k_ < w.heap.size) _ _ l0 t131 _ ?side1 A2.out).mono ?_); (case side1 => exact Kd.V_mk HC0.out (Kd.F_below (Kd.C_F (Kd.heap_int .u32) HR0.out) (zb HB rfl))); rintro e w7 ⟨v132, rfl, ho0, hb⟩; refine ⟨_, rfl, ?_⟩; have HO133 := zA (Kd.V_lower (Kd.V_mono (ok' := fun k_ => True) ho0 (fun k_ hk_ => trivial)) (below_size (zb HB rfl))); replace HB := zbb HB hb rfl; obtain ⟨Ao8, co8, eo8⟩ := Kd.V_slice HO133.out; subst eo8) | ((with_reducible refine gate_builtin (b := .append) (xs := #[.const (.slice none 0 0), .tmp 8]) rfl ?_); at_builtin; refine Kd.R_append_rows (Kd.int .u32) (w0 := w) w.heap.size rfl (.const (.slice none 0 0)) (.tmp 8) 23 37 (.int .u32 0) 4 rfl Tryd.underlying23 info37 rfl (by decide) (by omega) (.slice none 0 0) ([] : List Int) t131 _ _ _ (fun _ => True) (fun _ => False) rfl rfl ?aO ?aR (fun _ _ h => h) (fun _ h => h.elim) ?aF ?aB ?aS ?aL ?_; (case aR => exact zC (Kd.V_reads' HO133.out).2.2); (case aB => exact zH); (case aF => exact (fun _ _ => trivial)); (case aO => exact ((Kd.R_nil _ _ _ _ (fun _ => True)))); (case aS => exact (below_size zH)); (case aL => have := LMc6.out; omega); intro v135 w9 ho hb hg hat; rw [← Ny134.out] at ho; replace HO133 := zA (Kd.V_afterv (Kd.V_apart_nil (zV HO133.out)) hg hat); replace HB := zA (hb); have HO136 := zA (ho); clear ho hb hg hat))
  go_ret
  exact ⟨_, zE, zR HO136.out, zH⟩
 rw [if_neg c6] at H
 cases H

def bignat_Normalize.f (k : Nat) (l0 : List Int) : Option (List Int) := (bignat_clone.f k l0).bind fun t137 => (some t137)
theorem bignat_Normalize.mono : ∀ a0 k, LeO (bignat_Normalize.f k a0) (bignat_Normalize.f (k + 1) a0) := by
 intro a0 k
 unfold bignat_Normalize.f
 exact zm1 bignat_clone.mono
set_option maxHeartbeats 8000000 in
set_option maxRecDepth 100000 in
theorem bignat_Normalize.calls (k : Nat) (A0 : Option Addr) (c0 : Nat) (l0 : List Int) (r : List Int) (w : World) (hr0 : Kd.C (Kd.int .u32) w A0 l0.length l0) (hc0 : l0.length ≤ c0) (h : bignat_Normalize.f k l0 = some r) :
 Calls Tryd.prog 76 #[.slice A0 l0.length c0] w fun e w' => ∃ v0_ : Value, e = .returned (v0_) ∧ Kd.R (Kd.int .u32) 37 w' w.heap.size (fun _ => True) v0_ r ∧ Below w.heap.size w w' := by
 have HR0 := zA hr0
 have HC0 := zA hc0
 clear hr0 hc0
 have HB := zA (Below.refl w.heap.size w)
 have H : ((bignat_clone.f k l0).bind fun t137 => (some t137)) = some r := h
 clear h
 obtain ⟨t137, A20, H⟩ := zi H
 replace H : (some t137) = some r := H
 have A2 := zA A20
 clear A20
 obtain rfl := Option.some.inj H
 go_enter Tryd.func76, Tryd.ntmps76
 go_wp2_with (first | ((with_reducible refine gate_callee (f := 64) rfl ?_); refine goesL_ (some 4) rfl rfl Tryd.func64 zk rfl #[.slice A0 l0.length c0] rfl zX ?_; (with_reducible refine (bignat_clone.calls k _ _ l0 t137 _ ?side1 ?side2 A2.out).mono ?_); (case side1 => exact zC HR0.out); (case side2 => exact HC0.out); rintro e w3 ⟨v138, rfl, ho0, hb⟩; refine ⟨_, rfl, ?_⟩; have HO139 := zA (Kd.R_lower ho0 (below_size (zb HB rfl))); replace HB := zbb HB hb rfl))
 go_ret
 exact ⟨_, zE, zR HO139.out, zH⟩

def bignat_FromUint64.f (a0 : Int) : Option (List Int) := if a0 = 0 then (some ([] : List Int)) else (if (a0 / 4294967296) = 0 then (some (([(a0) % 4294967296] : List Int))) else (some (([(a0) % 4294967296, (a0 / 4294967296) % 4294967296] : List Int))))
set_option maxHeartbeats 8000000 in
set_option maxRecDepth 100000 in
theorem bignat_FromUint64.calls (a0 : Int) (r : List Int) (w : World) (h : bignat_FromUint64.f a0 = some r) :
 Calls Tryd.prog 22 #[.int .u64 a0] w fun e w' => ∃ v0_ : Value, e = .returned (v0_) ∧ Kd.R (Kd.int .u32) 37 w' w.heap.size (fun _ => True) v0_ r ∧ Below w.heap.size w w' := by
 have HB := zA (Below.refl w.heap.size w)
 have H : (if a0 = 0 then (some ([] : List Int)) else (if (a0 / 4294967296) = 0 then (some (([(a0) % 4294967296] : List Int))) else (some (([(a0) % 4294967296, (a0 / 4294967296) % 4294967296] : List Int))))) = some r := h
 clear h
 by_cases c2 : a0 = 0
 ·
  rw [if_pos c2] at H
  have c2b0 := beq_iff_eq.mpr c2
  have c2b1 := bne_eq_false_iff_eq.mpr c2
  clear c2
  obtain rfl := Option.some.inj H
  go_enter Tryd.func22, Tryd.ntmps22
  go_wp2
  go_ret
  exact ⟨_, zE, by first | exact Kd.R_nil _ _ _ _ _ | exact Kd.V_nil _ _ _ _ _, zH⟩
 rw [if_neg c2] at H
 have c2b0 := beq_eq_false_iff_ne.mpr c2
 have c2b1 := bne_iff_ne.mpr c2
 by_cases c3 : (a0 / 4294967296) = 0
 ·
  rw [if_pos c3] at H
  have c3b0 := beq_iff_eq.mpr c3
  have c3b1 := bne_eq_false_iff_eq.mpr c3
  clear c3
  obtain ⟨y140, hy140⟩ : ∃ y_ : List Int, y_ = (([(a0) % 4294967296] : List Int)) := ⟨_, rfl⟩
  replace H : (some y140) = some r := by first | (rw [hy140]; with_reducible exact H) | (have H2_ := (Option.bind_some _ _).symm.trans H; rw [hy140]; with_reducible exact H2_) | (have H2_ := (Option.bind_some _ _).symm.trans H; with_reducible exact H2_) | with_reducible exact H | (rw [hy140]; exact H) | exact H
  have Ny140 := zA hy140
  clear hy140
  obtain rfl := Option.some.inj H
  go_enter Tryd.func22, Tryd.ntmps22
  go_wp2_with (first | ((with_reducible refine gate_dst (N := 12) rfl ?_); refine Kd.R_lit (Kd.int .u32) _ 37 ?hg (N := 12) ?hd (xs := ([(a0) % 4294967296] : List Int)) (inner := [.int .u32 ((a0) % 4294967296)]) (ok := fun _ => True) (okp := fun _ => True) ?hr ?hp (fun _ hk => hk) trivial (Below.refl _ _) (Nat.le_refl _) (by simp) ?_; (case hd => rfl); (case hg => rfl); (case hr => first | (go_simp; done) | (go_simp; rfl)); (case hp => exact (Reps.one (show Kd.M (Kd.int .u32) _ _ _ ((a0) % 4294967296) [.int .u32 ((a0) % 4294967296)] from rfl) (Reps.none _ _))); intro v141 w4 ho5 hb hg_ hnew_; clear hg_ hnew_; (first | rw [← Ny140.out] at ho5 | (simp only [Int.reduceToNat] at ho5; rw [← Ny140.out] at ho5)); have HO142 := zA (Kd.R_lower ho5 (below_size zH)); replace HB := zA (below_step zH hb); clear hb ho5))
  go_ret
  exact ⟨_, zE, zR HO142.out, zH⟩
 rw [if_neg c3] at H
 have c3b0 := beq_eq_false_iff_ne.mpr c3
 have c3b1 := bne_iff_ne.mpr c3
 obtain ⟨y143, hy143⟩ : ∃ y_ : List Int, y_ = (([(a0) % 4294967296, (a0 / 4294967296) % 4294967296] : List Int)) := ⟨_, rfl⟩
 replace H : (some y143) = some r := by first | (rw [hy143]; with_reducible exact H) | (have H2_ := (Option.bind_some _ _).symm.trans H; rw [hy143]; with_reducible exact H2_) | (have H2_ := (Option.bind_some _ _).symm.trans H; with_reducible exact H2_) | with_reducible exact H | (rw [hy143]; exact H) | exact H
 have Ny143 := zA hy143
 clear hy143
 obtain rfl := Option.some.inj H
 go_enter Tryd.func22, Tryd.ntmps22
 go_wp2_with (first | ((with_reducible refine gate_dst (N := 18) rfl ?_); refine Kd.R_lit (Kd.int .u32) _ 37 ?hg (N := 18) ?hd (xs := ([(a0) % 4294967296, (a0 / 4294967296) % 4294967296] : List Int)) (inner := [.int .u32 ((a0) % 4294967296), .int .u32 ((a0 / 4294967296) % 4294967296)]) (ok := fun _ => True) (okp := fun _ => True) ?hr ?hp (fun _ hk => hk) trivial (Below.refl _ _) (Nat.le_refl _) (by simp) ?_; (case hd => rfl); (case hg => rfl); (case hr => first | (go_simp; done) | (go_simp; rfl)); (case hp => exact (Reps.one (show Kd.M (Kd.int .u32) _ _ _ ((a0) % 4294967296) [.int .u32 ((a0) % 4294967296)] from rfl) (Reps.one (show Kd.M (Kd.int .u32) _ _ _ ((a0 / 4294967296) % 4294967296) [.int .u32 ((a0 / 4294967296) % 4294967296)] from rfl) (Reps.none _ _)))); intro v144 w6 ho7 hb hg_ hnew_; clear hg_ hnew_; (first | rw [← Ny143.out] at ho7 | (simp only [Int.reduceToNat] at ho7; rw [← Ny143.out] at ho7)); have HO145 := zA (Kd.R_lower ho7 (below_size zH)); replace HB := zA (below_step zH hb); clear hb ho7))
 go_ret
 exact ⟨_, zE, zR HO145.out, zH⟩

end Go.Proofs.YtoeldfopjalpkaaDoor.Q

