/- Lemmas for the proof of one law of this seat (Qx2). -/
import Derived.Test.YtoeldfopjalpkaaDoorZRationalCanonicalQx0
import Derived.Test.YtoeldfopjalpkaaDoorZRationalCanonicalQx1
import Derived.Test.YtoeldfopjalpkaaDoorZRationalCanonicalZip
namespace Go.Proofs.YtoeldfopjalpkaaDoor.Q
open Go.RowKit Go.Proofs.YtoeldfopjalpkaaDoorW.PrintWords Go.Proofs.YtoeldfopjalpkaaDoorW.PrintLast Go.Proofs.YtoeldfopjalpkaaDoorW.PrintMore
attribute [local go_sem] max2_int min2_int max_two min_two max_three min_three max_four min_four   -- for this text's walks alone
set_option linter.unusedVariables false
set_option linter.unusedSimpArgs false

def bignat_divSmall.l0 : Nat → List Int → Int → List Int → Int → Int → Option (List Int × Int)
 | 0, _, _, _, _, _ => none
 | k + 1, x0, x1, x6, x7, x8 => if x8 ≥ 0 then (if 0 ≤ x8 then (if x8 < (x0.length : Int) then (if (IntKind.u64.wrap (x1)) = 0 then (none) else (if x8 < (x6.length : Int) then (bignat_divSmall.l0 k x0 x1 (x6.set (x8 : Int).toNat ((IntKind.u64.wrap (Int.tdiv (Go.bits .or .u64 (IntKind.u64.wrap (x7 * 4294967296)) (IntKind.u64.wrap (rd x0 x8))) (IntKind.u64.wrap (x1)))) % 4294967296)) (Int.tmod (Go.bits .or .u64 (IntKind.u64.wrap (x7 * 4294967296)) (IntKind.u64.wrap (rd x0 x8))) (IntKind.u64.wrap (x1))) (wrap64 (x8 - 1))) else (none))) else (none)) else (none)) else ((bignat_trim.f k x6).bind fun t151 => (some (t151, (x7) % 4294967296)))
def bignat_divSmall.f (k : Nat) (l0 : List Int) (a1 : Int) : Option (List Int × Int) := if 0 ≤ (l0.length : Int) then (if ((l0.length : Int) : Int).toNat ≤ 70368744177664 then (bignat_divSmall.l0 k l0 a1 (List.replicate ((l0.length : Int) : Int).toNat 0) 0 (wrap64 ((l0.length : Int) - 1))) else (none)) else (none)
theorem bignat_divSmall.mono_l : ∀ k, (∀ y0 y1 y2 y3 y4, LeO (bignat_divSmall.l0 k y0 y1 y2 y3 y4) (bignat_divSmall.l0 (k + 1) y0 y1 y2 y3 y4))
 | 0 => fun _ _ _ _ _ r h => by simp [bignat_divSmall.l0] at h
 | k + 1 => by
  have ih0 := bignat_divSmall.mono_l k
  intro y0 y1 y2 y3 y4
  unfold bignat_divSmall.l0
  exact zm2 ih0 bignat_trim.mono
theorem bignat_divSmall.mono : ∀ a0 a1 k, LeO (bignat_divSmall.f k a0 a1) (bignat_divSmall.f (k + 1) a0 a1) := by
 intro a0 a1 k
 have ih0 := bignat_divSmall.mono_l k
 unfold bignat_divSmall.f
 exact zm2 ih0 bignat_trim.mono
set_option maxHeartbeats 8000000 in
set_option maxRecDepth 100000 in
theorem bignat_divSmall.calls (k : Nat) (A0 : Option Addr) (c0 : Nat) (l0 : List Int) (a1 : Int) (r1 : List Int) (r2 : Int) (w : World) (hr0 : Kd.C (Kd.int .u32) w A0 l0.length l0) (hc0 : l0.length ≤ c0) (h : bignat_divSmall.f k l0 a1 = some (r1, r2)) :
 Calls Tryd.prog 65 #[.slice A0 l0.length c0, .int .u32 a1] w fun e w' => ∃ v0_ : Value, e = .returned (.tuple #[v0_, .int .u32 r2]) ∧ Kd.R (Kd.int .u32) 37 w' w.heap.size (fun _ => True) v0_ r1 ∧ Below w.heap.size w w' := by
 have HR0 := zA hr0
 have HC0 := zA hc0
 clear hr0 hc0
 have HB := zA (Below.refl w.heap.size w)
 have H : (if 0 ≤ (l0.length : Int) then (if ((l0.length : Int) : Int).toNat ≤ 70368744177664 then (bignat_divSmall.l0 k l0 a1 (List.replicate ((l0.length : Int) : Int).toNat 0) 0 (wrap64 ((l0.length : Int) - 1))) else (none)) else (none)) = some (r1, r2) := h
 clear h
 by_cases c3 : 0 ≤ (l0.length : Int)
 ·
  rw [if_pos c3] at H
  have c3b0 := eq_true c3
  have c3b1 := decide_eq_true c3
  clear c3
  by_cases c4 : ((l0.length : Int) : Int).toNat ≤ 70368744177664
  ·
   rw [if_pos c4] at H
   have c4b0 := eq_true c4
   have c4b1 := decide_eq_true c4
   clear c4
   obtain ⟨y146, hy146⟩ : ∃ y_ : List Int, y_ = (List.replicate ((l0.length : Int) : Int).toNat 0) := ⟨_, rfl⟩
   replace H : (bignat_divSmall.l0 k l0 a1 y146 0 (wrap64 ((l0.length : Int) - 1))) = some (r1, r2) := by first | (rw [hy146]; with_reducible exact H) | (have H2_ := (Option.bind_some _ _).symm.trans H; rw [hy146]; with_reducible exact H2_) | (have H2_ := (Option.bind_some _ _).symm.trans H; with_reducible exact H2_) | with_reducible exact H | (rw [hy146]; exact H) | exact H
   have Ny146 := zA hy146
   clear hy146
   have H' := zA H
   clear H
   go_enter Tryd.func65, Tryd.ntmps65
   go_wp2_with (first | ((with_reducible refine gate_dst (N := 11) rfl ?_); refine Kd.R_make (Kd.int .u32) _ 37 rfl (N := 11) rfl 23 _ _ rfl (l0.length : Int) rfl rfl Tryd.underlying23 (.int .u32 0) 4 info37 rfl (by decide) (by omega) 0 (ok := fun _ => True) (okp := fun _ => True) rfl (fun _ hk => hk) trivial zD (Nat.le_trans (Nat.mul_le_mul_right _ (zD : (l0.length : Int).toNat ≤ 70368744177664)) (by omega)) (Below.refl _ _) (Nat.le_refl _) ?_; intro v147 w5 ho6 hb hg_ hnew_; clear hg_ hnew_; (first | rw [← Ny146.out] at ho6 | (simp only [Int.reduceToNat] at ho6; rw [← Ny146.out] at ho6)); have HO148 := zA (Kd.R_lower ho6 (below_size (zb HB rfl))); replace HB := zbb HB hb rfl; clear hb ho6))
   go_loopg [7, 8] k (fun kq v7 v8 w' => ∃ (x6_1 : List Int) (x7_1 : Int) (x8_1 : Int), v7 = .int .u64 x7_1 ∧ v8 = .int .i64 x8_1 ∧ Aside0 (bignat_divSmall.l0 kq l0 a1 x6_1 x7_1 x8_1 = some (r1, r2)) ∧ Aside0 (kq ≤ k) ∧ Aside0 (Kd.R (Kd.int .u32) 37 w' w.heap.size (fun _ => True) v147 x6_1) ∧ Aside0 (Below w.heap.size w w'))
   case atStart => exact ⟨(y146), (0), (wrap64 ((l0.length : Int) - 1)), zS, zS, H', ⟨Nat.le_refl _⟩, ⟨zR HO148.out⟩, ⟨zH⟩⟩
   case round =>
    clear H'
    try clear p2
    try clear c3
    try clear c3b0
    try clear c3b1
    try clear c4
    try clear c4b0
    try clear c4b1
    try clear c6
    try clear p6
    obtain ⟨x6_1, x7_1, x8_1, rfl, rfl, HA, HK1, HO_6, HB⟩ := hrel
    cases gk with
    | zero => exact absurd HA.out (by simp [bignat_divSmall.l0])
    | succ k1 =>
     have H := HA.out
     clear HA
     simp only [bignat_divSmall.l0] at H
     by_cases c7 : x8_1 ≥ 0
     ·
      rw [if_pos c7] at H
      have c7b0 : decide (0 ≤ x8_1) = true := decide_eq_true c7
      clear c7
      by_cases c8 : 0 ≤ x8_1
      ·
       rw [if_pos c8] at H
       have c8b0 := decide_eq_true c8
       clear c8
       by_cases c9 : x8_1 < (l0.length : Int)
       ·
        rw [if_pos c9] at H
        have c9b0 := decide_eq_true c9
        clear c9
        by_cases c10 : (IntKind.u64.wrap (a1)) = 0
        ·
         rw [if_pos c10] at H
         cases H
        rw [if_neg c10] at H
        have c10b0 := beq_eq_false_iff_ne.mpr c10
        have c10b1 := bne_iff_ne.mpr c10
        by_cases c11 : x8_1 < (x6_1.length : Int)
        ·
         rw [if_pos c11] at H
         have c11b0 := decide_eq_true c11
         clear c11
         obtain ⟨y150, hy150⟩ : ∃ y_ : List Int, y_ = (x6_1.set (x8_1 : Int).toNat ((IntKind.u64.wrap (Int.tdiv (Go.bits .or .u64 (IntKind.u64.wrap (x7_1 * 4294967296)) (IntKind.u64.wrap (rd l0 x8_1))) (IntKind.u64.wrap (a1)))) % 4294967296)) := ⟨_, rfl⟩
         replace H : (bignat_divSmall.l0 k1 l0 a1 y150 (Int.tmod (Go.bits .or .u64 (IntKind.u64.wrap (x7_1 * 4294967296)) (IntKind.u64.wrap (rd l0 x8_1))) (IntKind.u64.wrap (a1))) (wrap64 (x8_1 - 1))) = some (r1, r2) := by first | (rw [hy150]; with_reducible exact H) | (have H2_ := (Option.bind_some _ _).symm.trans H; rw [hy150]; with_reducible exact H2_) | (have H2_ := (Option.bind_some _ _).symm.trans H; with_reducible exact H2_) | with_reducible exact H | (rw [hy150]; exact H) | exact H
         have Ny150 := zA hy150
         clear hy150
         have H' := zA H
         clear H
         have p149 : 0 ≤ (x8_1 : Int) := zD
         have q149 : x8_1 < (l0.length : Int) := zD
         obtain ⟨ad149, e149, hx149_0⟩ := Kd.at_int HR0.out x8_1 p149 q149
         cases e149
         replace hx149_0 := (HB.out.cell (World.block_lt_of_cell? w _ hx149_0)).trans hx149_0
         replace p149 := eq_true p149
         replace q149 := eq_true q149
         have p12 : 0 ≤ (x8_1 : Int) := zD
         have q12 : (x8_1 : Int) < ((x6_1.length : Int) : Int) := zD
         obtain ⟨go12, co12, eo12, gb12, gl12, cl12, HG12⟩ := Kd.R_form HO_6.out (by omega)
         (first | cases eo12 | (injection eo12 with ea_ en_ ec_; (first | subst ea_ | (injection ea_ with ea_; subst ea_)); subst ec_; clear en_))
         have GB12 := zA gb12
         have GG12 := zA HG12
         clear gb12 gl12 HG12
         obtain ⟨hx12_0, hf12_0⟩ := Kd.R_celln 0 HO_6.out (x8_1 : Int) p12 q12
         replace p12 := eq_true p12
         replace q12 := eq_true q12
         obtain ⟨hy13_, hz13_⟩ := Kd.R_celln 0 HO_6.out (x8_1 : Int) zD zD
         have HP13 := Kd.R_putg HO_6.out (x8_1 : Int) ((IntKind.u64.wrap (Int.tdiv (Go.bits .or .u64 (IntKind.u64.wrap (x7_1 * 4294967296)) (IntKind.u64.wrap (rd l0 x8_1))) (IntKind.u64.wrap (a1)))) % 4294967296)
         go_wp2_with (first | ((with_reducible refine gate_store (t := 37) (p := 34) rfl ?_); refine store_event (t := 37) (p := 34) (v := ?vo_w14) (w1 := (wr.setCell ⟨go12, (x8_1 : Int).toNat, none⟩ (.int .u32 ((IntKind.u64.wrap (Int.tdiv (Go.bits .or .u64 (IntKind.u64.wrap (x7_1 * 4294967296)) (IntKind.u64.wrap (rd l0 x8_1))) (IntKind.u64.wrap (a1)))) % 4294967296)))) ?hg ?ho ?hn ?hr ?_; (case ho => rfl); (case hg => rfl); (case hn => rfl); (case hr => first | (go_simp; done) | (go_simp; rfl)); intro w14 hw; have hg : wr.grownBy w14 (some go12) := (by rw [hw]; exact HP13.2); have hp_ : Kd.R (Kd.int .u32) 37 w14 w.heap.size (fun _ => True) (.slice (some ⟨go12, 0, none⟩) x6_1.length co12) y150 := (by rw [hw, Ny150.out]; exact HP13.1); clear HP13; replace HO_6 := zA (hp_); replace HB := zA ((by rw [hw]; exact below_set (HB.out) GB12.out : Below w.heap.size w w14)); clear hg hw hp_))
         go_roundg k1
         case measure => have := HK1.out; omega
         case rel => exact ⟨(y150), (Int.tmod (Go.bits .or .u64 (IntKind.u64.wrap (x7_1 * 4294967296)) (IntKind.u64.wrap (rd l0 x8_1))) (IntKind.u64.wrap (a1))), (wrap64 (x8_1 - 1)), zS, zS, H', ⟨by have := HK1.out; omega⟩, ⟨zR HO_6.out⟩, ⟨zH⟩⟩
        rw [if_neg c11] at H
        cases H
       rw [if_neg c9] at H
       cases H
      rw [if_neg c8] at H
      cases H
     rw [if_neg c7] at H
     have c7b0 : decide (0 ≤ x8_1) = false := decide_eq_false c7
     clear c7
     obtain ⟨t151, A150, H⟩ := zi H
     replace H : (some (t151, (x7_1) % 4294967296)) = some (r1, r2) := H
     have A15 := zA A150
     clear A150
     simp only [Option.some.injEq, Prod.mk.injEq] at H
     obtain ⟨rfl, rfl⟩ := H
     obtain ⟨Ao16, co16, eo16⟩ := Kd.R_slice HO_6.out
     subst eo16
     go_wp2_with (first | ((with_reducible refine gate_callee (f := 71) rfl ?_); refine goesL_ (some 40) rfl rfl Tryd.func71 zk rfl #[.slice Ao16 x6_1.length co16] rfl zX ?_; (with_reducible refine (bignat_trimO.calls k1 (fun k_ => some k_ = (.slice Ao16 x6_1.length co16 : Value).ownBlock) (.slice Ao16 x6_1.length co16) x6_1 t151 w _ ?side1 ?side2 A15.out).mono ?_); (case side1 => repeat (first | (with_reducible first | exact HB.out | apply below_alloc | apply pw_below_drewN | apply below_drew1) | exact HB.out)); (case side2 => exact Kd.R_tight rfl HO_6.out); rintro e w17 ⟨v152, rfl, ho0, hb, hkp⟩; refine ⟨_, rfl, ?_⟩; have HO153 := zA (Kd.R_mono (ok' := fun k_ => True) ho0 (fun k_ hk_ => trivial)); replace HB := zA (hb); clear HO_6; (try clear hkp)))
     go_ret2
     exact ⟨_, zE, zR HO153.out, zH⟩
  rw [if_neg c4] at H
  cases H
 rw [if_neg c3] at H
 cases H

def bignat_Cmp.l0 : Nat → List Int → List Int → Int → Option (Int)
 | 0, _, _, _ => none
 | k + 1, x0, x1, x5 => if x5 ≥ 0 then (if 0 ≤ x5 then (if x5 < (x0.length : Int) then (if x5 < (x1.length : Int) then (if (rd x0 x5) = (rd x1 x5) then (bignat_Cmp.l0 k x0 x1 (wrap64 (x5 - 1))) else (if (rd x0 x5) < (rd x1 x5) then (some (-1)) else (some 1))) else (none)) else (none)) else (none)) else (some 0)
def bignat_Cmp.f (k : Nat) (l0 : List Int) (l1 : List Int) : Option (Int) := (bignat_trim.f k l0).bind fun t154 => ((bignat_trim.f k l1).bind fun t157 => (if (t154.length : Int) < (t157.length : Int) then (some (-1)) else (if (t154.length : Int) > (t157.length : Int) then (some 1) else (bignat_Cmp.l0 k t154 t157 (wrap64 ((t154.length : Int) - 1))))))
theorem bignat_Cmp.mono_l : ∀ k, (∀ y0 y1 y2, LeO (bignat_Cmp.l0 k y0 y1 y2) (bignat_Cmp.l0 (k + 1) y0 y1 y2))
 | 0 => fun _ _ _ r h => by simp [bignat_Cmp.l0] at h
 | k + 1 => by
  have ih0 := bignat_Cmp.mono_l k
  intro y0 y1 y2
  unfold bignat_Cmp.l0
  exact zm2 ih0 bignat_trim.mono
theorem bignat_Cmp.mono : ∀ a0 a1 k, LeO (bignat_Cmp.f k a0 a1) (bignat_Cmp.f (k + 1) a0 a1) := by
 intro a0 a1 k
 have ih0 := bignat_Cmp.mono_l k
 unfold bignat_Cmp.f
 exact zm2 ih0 bignat_trim.mono
set_option maxHeartbeats 8000000 in
set_option maxRecDepth 100000 in
theorem bignat_Cmp.calls (k : Nat) (A0 : Option Addr) (c0 : Nat) (l0 : List Int) (A1 : Option Addr) (c1 : Nat) (l1 : List Int) (r : Int) (w : World) (hr0 : Kd.C (Kd.int .u32) w A0 l0.length l0) (hc0 : l0.length ≤ c0) (hr1 : Kd.C (Kd.int .u32) w A1 l1.length l1) (hc1 : l1.length ≤ c1) (h : bignat_Cmp.f k l0 l1 = some r) :
 Calls Tryd.prog 67 #[.slice A0 l0.length c0, .slice A1 l1.length c1] w fun e w' => e = .returned (.int .i64 r) ∧ Below w.heap.size w w' := by
 have HR0 := zA hr0
 have HC0 := zA hc0
 clear hr0 hc0
 have HR1 := zA hr1
 have HC1 := zA hc1
 clear hr1 hc1
 have HB := zA (Below.refl w.heap.size w)
 have H : ((bignat_trim.f k l0).bind fun t154 => ((bignat_trim.f k l1).bind fun t157 => (if (t154.length : Int) < (t157.length : Int) then (some (-1)) else (if (t154.length : Int) > (t157.length : Int) then (some 1) else (bignat_Cmp.l0 k t154 t157 (wrap64 ((t154.length : Int) - 1))))))) = some r := h
 clear h
 obtain ⟨t154, A30, H⟩ := zi H
 replace H : ((bignat_trim.f k l1).bind fun t157 => (if (t154.length : Int) < (t157.length : Int) then (some (-1)) else (if (t154.length : Int) > (t157.length : Int) then (some 1) else (bignat_Cmp.l0 k t154 t157 (wrap64 ((t154.length : Int) - 1)))))) = some r := H
 have A3 := zA A30
 clear A30
 obtain ⟨t157, A40, H⟩ := zi H
 replace H : (if (t154.length : Int) < (t157.length : Int) then (some (-1)) else (if (t154.length : Int) > (t157.length : Int) then (some 1) else (bignat_Cmp.l0 k t154 t157 (wrap64 ((t154.length : Int) - 1))))) = some r := H
 have A4 := zA A40
 clear A40
 by_cases c5 : (t154.length : Int) < (t157.length : Int)
 ·
  rw [if_pos c5] at H
  have c5b0 := decide_eq_true c5
  have c5b1 : decide (t154.length < t157.length) = true := decide_eq_true (Int.ofNat_lt.mp c5)
  clear c5
  obtain rfl := Option.some.inj H
  go_enter Tryd.func67, Tryd.ntmps67
  have M242_0 : Aside0 True := ⟨trivial⟩
  have M242_1 : Aside0 True := ⟨trivial⟩
  go_wp2_with (first | (go_at_call 71; clear M242_0; (with_reducible refine (bignat_trim.calls k (fun k_ => k_ < w.heap.size) _ _ l0 t154 _ ?side1 A3.out).mono ?_); (case side1 => exact Kd.V_mk HC0.out (Kd.F_below (Kd.C_F (Kd.heap_int .u32) HR0.out) (zb HB rfl))); rintro e w6 ⟨v155, rfl, ho0, hb⟩; have HO156 := zA (Kd.V_lower (Kd.V_mono (ok' := fun k_ => True) ho0 (fun k_ hk_ => trivial)) (below_size (zb HB rfl))); replace HB := zbb HB hb rfl) | (go_at_call 71; clear M242_1; (with_reducible refine (bignat_trim.calls k (fun k_ => k_ < w.heap.size) _ _ l1 t157 _ ?side1 A4.out).mono ?_); (case side1 => exact Kd.V_mk HC1.out (Kd.F_below (Kd.C_F (Kd.heap_int .u32) HR1.out) (zb HB rfl))); rintro e w7 ⟨v158, rfl, ho0, hb⟩; replace HO156 := zA (Kd.V_below (zv HO156 rfl) hb); have HO159 := zA (Kd.V_lower (Kd.V_mono (ok' := fun k_ => True) ho0 (fun k_ hk_ => trivial)) (below_size (zb HB rfl))); replace HB := zbb HB hb rfl; obtain ⟨Ao8, co8, eo8⟩ := Kd.V_slice HO156.out; subst eo8; obtain ⟨Ao9, co9, eo9⟩ := Kd.V_slice HO159.out; subst eo9))
  repeat (go_quiet (first | (go_at_call 71; (with_reducible refine (bignat_trim.calls k (fun k_ => k_ < w.heap.size) _ _ l0 t154 _ ?side1 A3.out).mono ?_); (case side1 => exact Kd.V_mk HC0.out (Kd.F_below (Kd.C_F (Kd.heap_int .u32) HR0.out) (zb HB rfl))); rintro e w6 ⟨v155, rfl, ho0, hb⟩; have n0_ := zA (Kd.V_lower (Kd.V_mono (ok' := fun k_ => True) ho0 (fun k_ hk_ => trivial)) (below_size (zb HB rfl))); have n1_ := zbb HB hb rfl; clear HB; have HO156 := n0_; have HB := n1_; clear n0_ n1_) | (go_at_call 71; (with_reducible refine (bignat_trim.calls k (fun k_ => k_ < w.heap.size) _ _ l1 t157 _ ?side1 A4.out).mono ?_); (case side1 => exact Kd.V_mk HC1.out (Kd.F_below (Kd.C_F (Kd.heap_int .u32) HR1.out) (zb HB rfl))); rintro e w7 ⟨v158, rfl, ho0, hb⟩; have n0_ := zA (Kd.V_below (zv HO156 rfl) hb); have n1_ := zA (Kd.V_lower (Kd.V_mono (ok' := fun k_ => True) ho0 (fun k_ hk_ => trivial)) (below_size (zb HB rfl))); have n2_ := zbb HB hb rfl; clear HO156; clear HB; have HO156 := n0_; have HO159 := n1_; have HB := n2_; clear n0_ n1_ n2_; obtain ⟨Ao8, co8, eo8⟩ := Kd.V_slice HO156.out; subst eo8; obtain ⟨Ao9, co9, eo9⟩ := Kd.V_slice HO159.out; subst eo9)); try go_wp2_with (first | (go_at_call 71; (with_reducible refine (bignat_trim.calls k (fun k_ => k_ < w.heap.size) _ _ l0 t154 _ ?side1 A3.out).mono ?_); (case side1 => exact Kd.V_mk HC0.out (Kd.F_below (Kd.C_F (Kd.heap_int .u32) HR0.out) (zb HB rfl))); rintro e w6 ⟨v155, rfl, ho0, hb⟩; have n0_ := zA (Kd.V_lower (Kd.V_mono (ok' := fun k_ => True) ho0 (fun k_ hk_ => trivial)) (below_size (zb HB rfl))); have n1_ := zbb HB hb rfl; clear HB; have HO156 := n0_; have HB := n1_; clear n0_ n1_) | (go_at_call 71; (with_reducible refine (bignat_trim.calls k (fun k_ => k_ < w.heap.size) _ _ l1 t157 _ ?side1 A4.out).mono ?_); (case side1 => exact Kd.V_mk HC1.out (Kd.F_below (Kd.C_F (Kd.heap_int .u32) HR1.out) (zb HB rfl))); rintro e w7 ⟨v158, rfl, ho0, hb⟩; have n0_ := zA (Kd.V_below (zv HO156 rfl) hb); have n1_ := zA (Kd.V_lower (Kd.V_mono (ok' := fun k_ => True) ho0 (fun k_ hk_ => trivial)) (below_size (zb HB rfl))); have n2_ := zbb HB hb rfl; clear HO156; clear HB; have HO156 := n0_; have HO159 := n1_; have HB := n2_; clear n0_ n1_ n2_; obtain ⟨Ao8, co8, eo8⟩ := Kd.V_slice HO156.out; subst eo8; obtain ⟨Ao9, co9, eo9⟩ := Kd.V_slice HO159.out; subst eo9)))
  go_ret
  exact ⟨zE, zH⟩
 rw [if_neg c5] at H
 have c5b0 := decide_eq_false c5
 have c5b1 : decide (t154.length < t157.length) = false := decide_eq_false (fun h => c5 (Int.ofNat_lt.mpr h))
 clear c5
 by_cases c10 : (t154.length : Int) > (t157.length : Int)
 ·
  rw [if_pos c10] at H
  have c10b0 : decide ((t157.length : Int) < (t154.length : Int)) = true := decide_eq_true c10
  have c10b1 : decide (t157.length < t154.length) = true := decide_eq_true (Int.ofNat_lt.mp c10)
  clear c10
  obtain rfl := Option.some.inj H
  go_enter Tryd.func67, Tryd.ntmps67
  have M257_0 : Aside0 True := ⟨trivial⟩
  have M257_1 : Aside0 True := ⟨trivial⟩
  go_wp2_with (first | (go_at_call 71; clear M257_0; (with_reducible refine (bignat_trim.calls k (fun k_ => k_ < w.heap.size) _ _ l0 t154 _ ?side1 A3.out).mono ?_); (case side1 => exact Kd.V_mk HC0.out (Kd.F_below (Kd.C_F (Kd.heap_int .u32) HR0.out) (zb HB rfl))); rintro e w11 ⟨v155, rfl, ho0, hb⟩; have HO156 := zA (Kd.V_lower (Kd.V_mono (ok' := fun k_ => True) ho0 (fun k_ hk_ => trivial)) (below_size (zb HB rfl))); replace HB := zbb HB hb rfl) | (go_at_call 71; clear M257_1; (with_reducible refine (bignat_trim.calls k (fun k_ => k_ < w.heap.size) _ _ l1 t157 _ ?side1 A4.out).mono ?_); (case side1 => exact Kd.V_mk HC1.out (Kd.F_below (Kd.C_F (Kd.heap_int .u32) HR1.out) (zb HB rfl))); rintro e w12 ⟨v158, rfl, ho0, hb⟩; replace HO156 := zA (Kd.V_below (zv HO156 rfl) hb); have HO159 := zA (Kd.V_lower (Kd.V_mono (ok' := fun k_ => True) ho0 (fun k_ hk_ => trivial)) (below_size (zb HB rfl))); replace HB := zbb HB hb rfl; obtain ⟨Ao13, co13, eo13⟩ := Kd.V_slice HO156.out; subst eo13; obtain ⟨Ao14, co14, eo14⟩ := Kd.V_slice HO159.out; subst eo14))
  repeat (go_quiet (first | (go_at_call 71; (with_reducible refine (bignat_trim.calls k (fun k_ => k_ < w.heap.size) _ _ l0 t154 _ ?side1 A3.out).mono ?_); (case side1 => exact Kd.V_mk HC0.out (Kd.F_below (Kd.C_F (Kd.heap_int .u32) HR0.out) (zb HB rfl))); rintro e w11 ⟨v155, rfl, ho0, hb⟩; have n0_ := zA (Kd.V_lower (Kd.V_mono (ok' := fun k_ => True) ho0 (fun k_ hk_ => trivial)) (below_size (zb HB rfl))); have n1_ := zbb HB hb rfl; clear HB; have HO156 := n0_; have HB := n1_; clear n0_ n1_) | (go_at_call 71; (with_reducible refine (bignat_trim.calls k (fun k_ => k_ < w.heap.size) _ _ l1 t157 _ ?side1 A4.out).mono ?_); (case side1 => exact Kd.V_mk HC1.out (Kd.F_below (Kd.C_F (Kd.heap_int .u32) HR1.out) (zb HB rfl))); rintro e w12 ⟨v158, rfl, ho0, hb⟩; have n0_ := zA (Kd.V_below (zv HO156 rfl) hb); have n1_ := zA (Kd.V_lower (Kd.V_mono (ok' := fun k_ => True) ho0 (fun k_ hk_ => trivial)) (below_size (zb HB rfl))); have n2_ := zbb HB hb rfl; clear HO156; clear HB; have HO156 := n0_; have HO159 := n1_; have HB := n2_; clear n0_ n1_ n2_; obtain ⟨Ao13, co13, eo13⟩ := Kd.V_slice HO156.out; subst eo13; obtain ⟨Ao14, co14, eo14⟩ := Kd.V_slice HO159.out; subst eo14)); try go_wp2_with (first | (go_at_call 71; (with_reducible refine (bignat_trim.calls k (fun k_ => k_ < w.heap.size) _ _ l0 t154 _ ?side1 A3.out).mono ?_); (case side1 => exact Kd.V_mk HC0.out (Kd.F_below (Kd.C_F (Kd.heap_int .u32) HR0.out) (zb HB rfl))); rintro e w11 ⟨v155, rfl, ho0, hb⟩; have n0_ := zA (Kd.V_lower (Kd.V_mono (ok' := fun k_ => True) ho0 (fun k_ hk_ => trivial)) (below_size (zb HB rfl))); have n1_ := zbb HB hb rfl; clear HB; have HO156 := n0_; have HB := n1_; clear n0_ n1_) | (go_at_call 71; (with_reducible refine (bignat_trim.calls k (fun k_ => k_ < w.heap.size) _ _ l1 t157 _ ?side1 A4.out).mono ?_); (case side1 => exact Kd.V_mk HC1.out (Kd.F_below (Kd.C_F (Kd.heap_int .u32) HR1.out) (zb HB rfl))); rintro e w12 ⟨v158, rfl, ho0, hb⟩; have n0_ := zA (Kd.V_below (zv HO156 rfl) hb); have n1_ := zA (Kd.V_lower (Kd.V_mono (ok' := fun k_ => True) ho0 (fun k_ hk_ => trivial)) (below_size (zb HB rfl))); have n2_ := zbb HB hb rfl; clear HO156; clear HB; have HO156 := n0_; have HO159 := n1_; have HB := n2_; clear n0_ n1_ n2_; obtain ⟨Ao13, co13, eo13⟩ := Kd.V_slice HO156.out; subst eo13; obtain ⟨Ao14, co14, eo14⟩ := Kd.V_slice HO159.out; subst eo14)))
  go_ret
  exact ⟨zE, zH⟩
 rw [if_neg c10] at H
 have c10b0 : decide ((t157.length : Int) < (t154.length : Int)) = false := decide_eq_false c10
 have c10b1 : decide (t157.length < t154.length) = false := decide_eq_false (fun h => c10 (Int.ofNat_lt.mpr h))
 clear c10
 have H' := zA H
 clear H
 go_enter Tryd.func67, Tryd.ntmps67
 have M268_0 : Aside0 True := ⟨trivial⟩
 have M268_1 : Aside0 True := ⟨trivial⟩
 go_wp2_with (first | (go_at_call 71; clear M268_0; (with_reducible refine (bignat_trim.calls k (fun k_ => k_ < w.heap.size) _ _ l0 t154 _ ?side1 A3.out).mono ?_); (case side1 => exact Kd.V_mk HC0.out (Kd.F_below (Kd.C_F (Kd.heap_int .u32) HR0.out) (zb HB rfl))); rintro e w15 ⟨v155, rfl, ho0, hb⟩; have HO156 := zA (Kd.V_lower (Kd.V_mono (ok' := fun k_ => True) ho0 (fun k_ hk_ => trivial)) (below_size (zb HB rfl))); replace HB := zbb HB hb rfl) | (go_at_call 71; clear M268_1; (with_reducible refine (bignat_trim.calls k (fun k_ => k_ < w.heap.size) _ _ l1 t157 _ ?side1 A4.out).mono ?_); (case side1 => exact Kd.V_mk HC1.out (Kd.F_below (Kd.C_F (Kd.heap_int .u32) HR1.out) (zb HB rfl))); rintro e w16 ⟨v158, rfl, ho0, hb⟩; replace HO156 := zA (Kd.V_below (zv HO156 rfl) hb); have HO159 := zA (Kd.V_lower (Kd.V_mono (ok' := fun k_ => True) ho0 (fun k_ hk_ => trivial)) (below_size (zb HB rfl))); replace HB := zbb HB hb rfl; obtain ⟨Ao17, co17, eo17⟩ := Kd.V_slice HO156.out; subst eo17; obtain ⟨Ao18, co18, eo18⟩ := Kd.V_slice HO159.out; subst eo18))
 repeat (go_quiet (first | (go_at_call 71; (with_reducible refine (bignat_trim.calls k (fun k_ => k_ < w.heap.size) _ _ l0 t154 _ ?side1 A3.out).mono ?_); (case side1 => exact Kd.V_mk HC0.out (Kd.F_below (Kd.C_F (Kd.heap_int .u32) HR0.out) (zb HB rfl))); rintro e w15 ⟨v155, rfl, ho0, hb⟩; have n0_ := zA (Kd.V_lower (Kd.V_mono (ok' := fun k_ => True) ho0 (fun k_ hk_ => trivial)) (below_size (zb HB rfl))); have n1_ := zbb HB hb rfl; clear HB; have HO156 := n0_; have HB := n1_; clear n0_ n1_) | (go_at_call 71; (with_reducible refine (bignat_trim.calls k (fun k_ => k_ < w.heap.size) _ _ l1 t157 _ ?side1 A4.out).mono ?_); (case side1 => exact Kd.V_mk HC1.out (Kd.F_below (Kd.C_F (Kd.heap_int .u32) HR1.out) (zb HB rfl))); rintro e w16 ⟨v158, rfl, ho0, hb⟩; have n0_ := zA (Kd.V_below (zv HO156 rfl) hb); have n1_ := zA (Kd.V_lower (Kd.V_mono (ok' := fun k_ => True) ho0 (fun k_ hk_ => trivial)) (below_size (zb HB rfl))); have n2_ := zbb HB hb rfl; clear HO156; clear HB; have HO156 := n0_; have HO159 := n1_; have HB := n2_; clear n0_ n1_ n2_; obtain ⟨Ao17, co17, eo17⟩ := Kd.V_slice HO156.out; subst eo17; obtain ⟨Ao18, co18, eo18⟩ := Kd.V_slice HO159.out; subst eo18)); try go_wp2_with (first | (go_at_call 71; (with_reducible refine (bignat_trim.calls k (fun k_ => k_ < w.heap.size) _ _ l0 t154 _ ?side1 A3.out).mono ?_); (case side1 => exact Kd.V_mk HC0.out (Kd.F_below (Kd.C_F (Kd.heap_int .u32) HR0.out) (zb HB rfl))); rintro e w15 ⟨v155, rfl, ho0, hb⟩; have n0_ := zA (Kd.V_lower (Kd.V_mono (ok' := fun k_ => True) ho0 (fun k_ hk_ => trivial)) (below_size (zb HB rfl))); have n1_ := zbb HB hb rfl; clear HB; have HO156 := n0_; have HB := n1_; clear n0_ n1_) | (go_at_call 71; (with_reducible refine (bignat_trim.calls k (fun k_ => k_ < w.heap.size) _ _ l1 t157 _ ?side1 A4.out).mono ?_); (case side1 => exact Kd.V_mk HC1.out (Kd.F_below (Kd.C_F (Kd.heap_int .u32) HR1.out) (zb HB rfl))); rintro e w16 ⟨v158, rfl, ho0, hb⟩; have n0_ := zA (Kd.V_below (zv HO156 rfl) hb); have n1_ := zA (Kd.V_lower (Kd.V_mono (ok' := fun k_ => True) ho0 (fun k_ hk_ => trivial)) (below_size (zb HB rfl))); have n2_ := zbb HB hb rfl; clear HO156; clear HB; have HO156 := n0_; have HO159 := n1_; have HB := n2_; clear n0_ n1_ n2_; obtain ⟨Ao17, co17, eo17⟩ := Kd.V_slice HO156.out; subst eo17; obtain ⟨Ao18, co18, eo18⟩ := Kd.V_slice HO159.out; subst eo18)))
 go_loopg [5] k (fun kq v5 w' => ∃ (x5_1 : Int), v5 = .int .i64 x5_1 ∧ Aside0 (bignat_Cmp.l0 kq t154 t157 x5_1 = some r) ∧ Aside0 (kq ≤ k) ∧ Aside0 (Kd.V (Kd.int .u32) 37 w' w.heap.size (fun _ => True) (.slice Ao17 t154.length co17) t154) ∧ Aside0 (Kd.V (Kd.int .u32) 37 w' w.heap.size (fun _ => True) (.slice Ao18 t157.length co18) t157) ∧ Aside0 (Below w.heap.size w w'))
 case atStart => exact ⟨(wrap64 ((t154.length : Int) - 1)), zS, H', ⟨Nat.le_refl _⟩, ⟨zV HO156.out⟩, ⟨zV HO159.out⟩, ⟨zH⟩⟩
 case round =>
  clear H'
  try clear c1
  try clear p2
  try clear c5
  try clear c5b0
  try clear c5b1
  try clear c6
  try clear p6
  try clear c10
  try clear c10b0
  try clear c10b1
  obtain ⟨x5_1, rfl, HA, HK1, HO_0, HO_1, HB⟩ := hrel
  cases gk with
  | zero => exact absurd HA.out (by simp [bignat_Cmp.l0])
  | succ k1 =>
   have H := HA.out
   clear HA
   simp only [bignat_Cmp.l0] at H
   by_cases c19 : x5_1 ≥ 0
   ·
    rw [if_pos c19] at H
    have c19b0 : decide (0 ≤ x5_1) = true := decide_eq_true c19
    clear c19
    by_cases c20 : 0 ≤ x5_1
    ·
     rw [if_pos c20] at H
     have c20b0 := decide_eq_true c20
     clear c20
     by_cases c21 : x5_1 < (t154.length : Int)
     ·
      rw [if_pos c21] at H
      have c21b0 := decide_eq_true c21
      clear c21
      by_cases c22 : x5_1 < (t157.length : Int)
      ·
       rw [if_pos c22] at H
       have c22b0 := decide_eq_true c22
       clear c22
       by_cases c23 : (rd t154 x5_1) = (rd t157 x5_1)
       ·
        rw [if_pos c23] at H
        have c23b0 := beq_iff_eq.mpr c23
        have c23b1 := bne_eq_false_iff_eq.mpr c23
        clear c23
        have H' := zA H
        clear H
        have p160 : 0 ≤ (x5_1 : Int) := zD
        have q160 : x5_1 < (t154.length : Int) := zD
        obtain ⟨ad160, e160, hx160_0⟩ := Kd.at_int (Kd.V_reads' HO_0.out).2.2 x5_1 p160 q160
        cases e160
        replace p160 := eq_true p160
        replace q160 := eq_true q160
        have p161 : 0 ≤ (x5_1 : Int) := zD
        have q161 : x5_1 < (t157.length : Int) := zD
        obtain ⟨ad161, e161, hx161_0⟩ := Kd.at_int (Kd.V_reads' HO_1.out).2.2 x5_1 p161 q161
        cases e161
        replace p161 := eq_true p161
        replace q161 := eq_true q161
        go_wp2
        repeat (go_quiet (fail); try go_wp2)
        go_roundg k1
        case measure => have := HK1.out; omega
        case rel => exact ⟨(wrap64 (x5_1 - 1)), zS, H', ⟨by have := HK1.out; omega⟩, ⟨zV HO_0.out⟩, ⟨zV HO_1.out⟩, ⟨zH⟩⟩
       rw [if_neg c23] at H
       have c23b0 := beq_eq_false_iff_ne.mpr c23
       have c23b1 := bne_iff_ne.mpr c23
       by_cases c24 : (rd t154 x5_1) < (rd t157 x5_1)
       ·
        rw [if_pos c24] at H
        have c24b0 := decide_eq_true c24
        clear c24
        obtain rfl := Option.some.inj H
        have p160 : 0 ≤ (x5_1 : Int) := zD
        have q160 : x5_1 < (t154.length : Int) := zD
        obtain ⟨ad160, e160, hx160_0⟩ := Kd.at_int (Kd.V_reads' HO_0.out).2.2 x5_1 p160 q160
        cases e160
        replace p160 := eq_true p160
        replace q160 := eq_true q160
        have p161 : 0 ≤ (x5_1 : Int) := zD
        have q161 : x5_1 < (t157.length : Int) := zD
        obtain ⟨ad161, e161, hx161_0⟩ := Kd.at_int (Kd.V_reads' HO_1.out).2.2 x5_1 p161 q161
        cases e161
        replace p161 := eq_true p161
        replace q161 := eq_true q161
        have p162 : 0 ≤ (x5_1 : Int) := zD
        have q162 : x5_1 < (t154.length : Int) := zD
        obtain ⟨ad162, e162, hx162_0⟩ := Kd.at_int (Kd.V_reads' HO_0.out).2.2 x5_1 p162 q162
        obtain rfl : ad160 = ad162 := (by injection e162)
        replace p162 := eq_true p162
        replace q162 := eq_true q162
        have p163 : 0 ≤ (x5_1 : Int) := zD
        have q163 : x5_1 < (t157.length : Int) := zD
        obtain ⟨ad163, e163, hx163_0⟩ := Kd.at_int (Kd.V_reads' HO_1.out).2.2 x5_1 p163 q163
        obtain rfl : ad161 = ad163 := (by injection e163)
        replace p163 := eq_true p163
        replace q163 := eq_true q163
        go_wp2
        repeat (go_quiet (fail); try go_wp2)
        go_ret
        exact ⟨zE, zH⟩
       rw [if_neg c24] at H
       have c24b0 := decide_eq_false c24
       clear c24
       obtain rfl := Option.some.inj H
       have p160 : 0 ≤ (x5_1 : Int) := zD
       have q160 : x5_1 < (t154.length : Int) := zD
       obtain ⟨ad160, e160, hx160_0⟩ := Kd.at_int (Kd.V_reads' HO_0.out).2.2 x5_1 p160 q160
       cases e160
       replace p160 := eq_true p160
       replace q160 := eq_true q160
       have p161 : 0 ≤ (x5_1 : Int) := zD
       have q161 : x5_1 < (t157.length : Int) := zD
       obtain ⟨ad161, e161, hx161_0⟩ := Kd.at_int (Kd.V_reads' HO_1.out).2.2 x5_1 p161 q161
       cases e161
       replace p161 := eq_true p161
       replace q161 := eq_true q161
       have p162 : 0 ≤ (x5_1 : Int) := zD
       have q162 : x5_1 < (t154.length : Int) := zD
       obtain ⟨ad162, e162, hx162_0⟩ := Kd.at_int (Kd.V_reads' HO_0.out).2.2 x5_1 p162 q162
       obtain rfl : ad160 = ad162 := (by injection e162)
       replace p162 := eq_true p162
       replace q162 := eq_true q162
       have p163 : 0 ≤ (x5_1 : Int) := zD
       have q163 : x5_1 < (t157.length : Int) := zD
       obtain ⟨ad163, e163, hx163_0⟩ := Kd.at_int (Kd.V_reads' HO_1.out).2.2 x5_1 p163 q163
       obtain rfl : ad161 = ad163 := (by injection e163)
       replace p163 := eq_true p163
       replace q163 := eq_true q163
       go_wp2
       repeat (go_quiet (fail); try go_wp2)
       go_ret
       exact ⟨zE, zH⟩
      rw [if_neg c22] at H
      cases H
     rw [if_neg c21] at H
     cases H
    rw [if_neg c20] at H
    cases H
   rw [if_neg c19] at H
   have c19b0 : decide (0 ≤ x5_1) = false := decide_eq_false c19
   clear c19
   obtain rfl := Option.some.inj H
   go_wp2
   repeat (go_quiet (fail); try go_wp2)
   go_ret
   exact ⟨zE, zH⟩

def bits_Len32.f (a0 : Int) : Option (Int) := if a0 ≥ 65536 then (if (a0 / 65536) ≥ 256 then (if 0 ≤ (((a0 / 65536) / 256) % 256) then (if (((a0 / 65536) / 256) % 256) < 256 then (some (wrap64 ((16 + 8) + (wrap64 (bt (⟨#[0, 1, 2, 2, 3, 3, 3, 3, 4, 4, 4, 4, 4, 4, 4, 4, 5, 5, 5, 5, 5, 5, 5, 5, 5, 5, 5, 5, 5, 5, 5, 5, 6, 6, 6, 6, 6, 6, 6, 6, 6, 6, 6, 6, 6, 6, 6, 6, 6, 6, 6, 6, 6, 6, 6, 6, 6, 6, 6, 6, 6, 6, 6, 6, 7, 7, 7, 7, 7, 7, 7, 7, 7, 7, 7, 7, 7, 7, 7, 7, 7, 7, 7, 7, 7, 7, 7, 7, 7, 7, 7, 7, 7, 7, 7, 7, 7, 7, 7, 7, 7, 7, 7, 7, 7, 7, 7, 7, 7, 7, 7, 7, 7, 7, 7, 7, 7, 7, 7, 7, 7, 7, 7, 7, 7, 7, 7, 7, 8, 8, 8, 8, 8, 8, 8, 8, 8, 8, 8, 8, 8, 8, 8, 8, 8, 8, 8, 8, 8, 8, 8, 8, 8, 8, 8, 8, 8, 8, 8, 8, 8, 8, 8, 8, 8, 8, 8, 8, 8, 8, 8, 8, 8, 8, 8, 8, 8, 8, 8, 8, 8, 8, 8, 8, 8, 8, 8, 8, 8, 8, 8, 8, 8, 8, 8, 8, 8, 8, 8, 8, 8, 8, 8, 8, 8, 8, 8, 8, 8, 8, 8, 8, 8, 8, 8, 8, 8, 8, 8, 8, 8, 8, 8, 8, 8, 8, 8, 8, 8, 8, 8, 8, 8, 8, 8, 8, 8, 8, 8, 8, 8, 8, 8, 8, 8, 8, 8, 8, 8, 8, 8, 8, 8, 8, 8, 8]⟩ : ByteArray) (((a0 / 65536) / 256) % 256)))))) else (none)) else (none)) else (if 0 ≤ ((a0 / 65536) % 256) then (if ((a0 / 65536) % 256) < 256 then (some (wrap64 (16 + (wrap64 (bt (⟨#[0, 1, 2, 2, 3, 3, 3, 3, 4, 4, 4, 4, 4, 4, 4, 4, 5, 5, 5, 5, 5, 5, 5, 5, 5, 5, 5, 5, 5, 5, 5, 5, 6, 6, 6, 6, 6, 6, 6, 6, 6, 6, 6, 6, 6, 6, 6, 6, 6, 6, 6, 6, 6, 6, 6, 6, 6, 6, 6, 6, 6, 6, 6, 6, 7, 7, 7, 7, 7, 7, 7, 7, 7, 7, 7, 7, 7, 7, 7, 7, 7, 7, 7, 7, 7, 7, 7, 7, 7, 7, 7, 7, 7, 7, 7, 7, 7, 7, 7, 7, 7, 7, 7, 7, 7, 7, 7, 7, 7, 7, 7, 7, 7, 7, 7, 7, 7, 7, 7, 7, 7, 7, 7, 7, 7, 7, 7, 7, 8, 8, 8, 8, 8, 8, 8, 8, 8, 8, 8, 8, 8, 8, 8, 8, 8, 8, 8, 8, 8, 8, 8, 8, 8, 8, 8, 8, 8, 8, 8, 8, 8, 8, 8, 8, 8, 8, 8, 8, 8, 8, 8, 8, 8, 8, 8, 8, 8, 8, 8, 8, 8, 8, 8, 8, 8, 8, 8, 8, 8, 8, 8, 8, 8, 8, 8, 8, 8, 8, 8, 8, 8, 8, 8, 8, 8, 8, 8, 8, 8, 8, 8, 8, 8, 8, 8, 8, 8, 8, 8, 8, 8, 8, 8, 8, 8, 8, 8, 8, 8, 8, 8, 8, 8, 8, 8, 8, 8, 8, 8, 8, 8, 8, 8, 8, 8, 8, 8, 8, 8, 8, 8, 8, 8, 8, 8, 8]⟩ : ByteArray) ((a0 / 65536) % 256)))))) else (none)) else (none))) else (if a0 ≥ 256 then (if 0 ≤ ((a0 / 256) % 256) then (if ((a0 / 256) % 256) < 256 then (some (wrap64 ((0 + 8) + (wrap64 (bt (⟨#[0, 1, 2, 2, 3, 3, 3, 3, 4, 4, 4, 4, 4, 4, 4, 4, 5, 5, 5, 5, 5, 5, 5, 5, 5, 5, 5, 5, 5, 5, 5, 5, 6, 6, 6, 6, 6, 6, 6, 6, 6, 6, 6, 6, 6, 6, 6, 6, 6, 6, 6, 6, 6, 6, 6, 6, 6, 6, 6, 6, 6, 6, 6, 6, 7, 7, 7, 7, 7, 7, 7, 7, 7, 7, 7, 7, 7, 7, 7, 7, 7, 7, 7, 7, 7, 7, 7, 7, 7, 7, 7, 7, 7, 7, 7, 7, 7, 7, 7, 7, 7, 7, 7, 7, 7, 7, 7, 7, 7, 7, 7, 7, 7, 7, 7, 7, 7, 7, 7, 7, 7, 7, 7, 7, 7, 7, 7, 7, 8, 8, 8, 8, 8, 8, 8, 8, 8, 8, 8, 8, 8, 8, 8, 8, 8, 8, 8, 8, 8, 8, 8, 8, 8, 8, 8, 8, 8, 8, 8, 8, 8, 8, 8, 8, 8, 8, 8, 8, 8, 8, 8, 8, 8, 8, 8, 8, 8, 8, 8, 8, 8, 8, 8, 8, 8, 8, 8, 8, 8, 8, 8, 8, 8, 8, 8, 8, 8, 8, 8, 8, 8, 8, 8, 8, 8, 8, 8, 8, 8, 8, 8, 8, 8, 8, 8, 8, 8, 8, 8, 8, 8, 8, 8, 8, 8, 8, 8, 8, 8, 8, 8, 8, 8, 8, 8, 8, 8, 8, 8, 8, 8, 8, 8, 8, 8, 8, 8, 8, 8, 8, 8, 8, 8, 8, 8, 8]⟩ : ByteArray) ((a0 / 256) % 256)))))) else (none)) else (none)) else (if 0 ≤ ((a0) % 256) then (if ((a0) % 256) < 256 then (some (wrap64 (0 + (wrap64 (bt (⟨#[0, 1, 2, 2, 3, 3, 3, 3, 4, 4, 4, 4, 4, 4, 4, 4, 5, 5, 5, 5, 5, 5, 5, 5, 5, 5, 5, 5, 5, 5, 5, 5, 6, 6, 6, 6, 6, 6, 6, 6, 6, 6, 6, 6, 6, 6, 6, 6, 6, 6, 6, 6, 6, 6, 6, 6, 6, 6, 6, 6, 6, 6, 6, 6, 7, 7, 7, 7, 7, 7, 7, 7, 7, 7, 7, 7, 7, 7, 7, 7, 7, 7, 7, 7, 7, 7, 7, 7, 7, 7, 7, 7, 7, 7, 7, 7, 7, 7, 7, 7, 7, 7, 7, 7, 7, 7, 7, 7, 7, 7, 7, 7, 7, 7, 7, 7, 7, 7, 7, 7, 7, 7, 7, 7, 7, 7, 7, 7, 8, 8, 8, 8, 8, 8, 8, 8, 8, 8, 8, 8, 8, 8, 8, 8, 8, 8, 8, 8, 8, 8, 8, 8, 8, 8, 8, 8, 8, 8, 8, 8, 8, 8, 8, 8, 8, 8, 8, 8, 8, 8, 8, 8, 8, 8, 8, 8, 8, 8, 8, 8, 8, 8, 8, 8, 8, 8, 8, 8, 8, 8, 8, 8, 8, 8, 8, 8, 8, 8, 8, 8, 8, 8, 8, 8, 8, 8, 8, 8, 8, 8, 8, 8, 8, 8, 8, 8, 8, 8, 8, 8, 8, 8, 8, 8, 8, 8, 8, 8, 8, 8, 8, 8, 8, 8, 8, 8, 8, 8, 8, 8, 8, 8, 8, 8, 8, 8, 8, 8, 8, 8, 8, 8, 8, 8, 8, 8]⟩ : ByteArray) ((a0) % 256)))))) else (none)) else (none)))
set_option maxHeartbeats 8000000 in
set_option maxRecDepth 100000 in
theorem bits_Len32.calls (a0 : Int) (r : Int) (w : World) (h : bits_Len32.f a0 = some r) :
 Calls Tryd.prog 89 #[.int .u32 a0] w fun e w' => e = .returned (.int .i64 r) ∧ Drawn0 w w' := by
 have H : (if a0 ≥ 65536 then (if (a0 / 65536) ≥ 256 then (if 0 ≤ (((a0 / 65536) / 256) % 256) then (if (((a0 / 65536) / 256) % 256) < 256 then (some (wrap64 ((16 + 8) + (wrap64 (bt (⟨#[0, 1, 2, 2, 3, 3, 3, 3, 4, 4, 4, 4, 4, 4, 4, 4, 5, 5, 5, 5, 5, 5, 5, 5, 5, 5, 5, 5, 5, 5, 5, 5, 6, 6, 6, 6, 6, 6, 6, 6, 6, 6, 6, 6, 6, 6, 6, 6, 6, 6, 6, 6, 6, 6, 6, 6, 6, 6, 6, 6, 6, 6, 6, 6, 7, 7, 7, 7, 7, 7, 7, 7, 7, 7, 7, 7, 7, 7, 7, 7, 7, 7, 7, 7, 7, 7, 7, 7, 7, 7, 7, 7, 7, 7, 7, 7, 7, 7, 7, 7, 7, 7, 7, 7, 7, 7, 7, 7, 7, 7, 7, 7, 7, 7, 7, 7, 7, 7, 7, 7, 7, 7, 7, 7, 7, 7, 7, 7, 8, 8, 8, 8, 8, 8, 8, 8, 8, 8, 8, 8, 8, 8, 8, 8, 8, 8, 8, 8, 8, 8, 8, 8, 8, 8, 8, 8, 8, 8, 8, 8, 8, 8, 8, 8, 8, 8, 8, 8, 8, 8, 8, 8, 8, 8, 8, 8, 8, 8, 8, 8, 8, 8, 8, 8, 8, 8, 8, 8, 8, 8, 8, 8, 8, 8, 8, 8, 8, 8, 8, 8, 8, 8, 8, 8, 8, 8, 8, 8, 8, 8, 8, 8, 8, 8, 8, 8, 8, 8, 8, 8, 8, 8, 8, 8, 8, 8, 8, 8, 8, 8, 8, 8, 8, 8, 8, 8, 8, 8, 8, 8, 8, 8, 8, 8, 8, 8, 8, 8, 8, 8, 8, 8, 8, 8, 8, 8]⟩ : ByteArray) (((a0 / 65536) / 256) % 256)))))) else (none)) else (none)) else (if 0 ≤ ((a0 / 65536) % 256) then (if ((a0 / 65536) % 256) < 256 then (some (wrap64 (16 + (wrap64 (bt (⟨#[0, 1, 2, 2, 3, 3, 3, 3, 4, 4, 4, 4, 4, 4, 4, 4, 5, 5, 5, 5, 5, 5, 5, 5, 5, 5, 5, 5, 5, 5, 5, 5, 6, 6, 6, 6, 6, 6, 6, 6, 6, 6, 6, 6, 6, 6, 6, 6, 6, 6, 6, 6, 6, 6, 6, 6, 6, 6, 6, 6, 6, 6, 6, 6, 7, 7, 7, 7, 7, 7, 7, 7, 7, 7, 7, 7, 7, 7, 7, 7, 7, 7, 7, 7, 7, 7, 7, 7, 7, 7, 7, 7, 7, 7, 7, 7, 7, 7, 7, 7, 7, 7, 7, 7, 7, 7, 7, 7, 7, 7, 7, 7, 7, 7, 7, 7, 7, 7, 7, 7, 7, 7, 7, 7, 7, 7, 7, 7, 8, 8, 8, 8, 8, 8, 8, 8, 8, 8, 8, 8, 8, 8, 8, 8, 8, 8, 8, 8, 8, 8, 8, 8, 8, 8, 8, 8, 8, 8, 8, 8, 8, 8, 8, 8, 8, 8, 8, 8, 8, 8, 8, 8, 8, 8, 8, 8, 8, 8, 8, 8, 8, 8, 8, 8, 8, 8, 8, 8, 8, 8, 8, 8, 8, 8, 8, 8, 8, 8, 8, 8, 8, 8, 8, 8, 8, 8, 8, 8, 8, 8, 8, 8, 8, 8, 8, 8, 8, 8, 8, 8, 8, 8, 8, 8, 8, 8, 8, 8, 8, 8, 8, 8, 8, 8, 8, 8, 8, 8, 8, 8, 8, 8, 8, 8, 8, 8, 8, 8, 8, 8, 8, 8, 8, 8, 8, 8]⟩ : ByteArray) ((a0 / 65536) % 256)))))) else (none)) else (none))) else (if a0 ≥ 256 then (if 0 ≤ ((a0 / 256) % 256) then (if ((a0 / 256) % 256) < 256 then (some (wrap64 ((0 + 8) + (wrap64 (bt (⟨#[0, 1, 2, 2, 3, 3, 3, 3, 4, 4, 4, 4, 4, 4, 4, 4, 5, 5, 5, 5, 5, 5, 5, 5, 5, 5, 5, 5, 5, 5, 5, 5, 6, 6, 6, 6, 6, 6, 6, 6, 6, 6, 6, 6, 6, 6, 6, 6, 6, 6, 6, 6, 6, 6, 6, 6, 6, 6, 6, 6, 6, 6, 6, 6, 7, 7, 7, 7, 7, 7, 7, 7, 7, 7, 7, 7, 7, 7, 7, 7, 7, 7, 7, 7, 7, 7, 7, 7, 7, 7, 7, 7, 7, 7, 7, 7, 7, 7, 7, 7, 7, 7, 7, 7, 7, 7, 7, 7, 7, 7, 7, 7, 7, 7, 7, 7, 7, 7, 7, 7, 7, 7, 7, 7, 7, 7, 7, 7, 8, 8, 8, 8, 8, 8, 8, 8, 8, 8, 8, 8, 8, 8, 8, 8, 8, 8, 8, 8, 8, 8, 8, 8, 8, 8, 8, 8, 8, 8, 8, 8, 8, 8, 8, 8, 8, 8, 8, 8, 8, 8, 8, 8, 8, 8, 8, 8, 8, 8, 8, 8, 8, 8, 8, 8, 8, 8, 8, 8, 8, 8, 8, 8, 8, 8, 8, 8, 8, 8, 8, 8, 8, 8, 8, 8, 8, 8, 8, 8, 8, 8, 8, 8, 8, 8, 8, 8, 8, 8, 8, 8, 8, 8, 8, 8, 8, 8, 8, 8, 8, 8, 8, 8, 8, 8, 8, 8, 8, 8, 8, 8, 8, 8, 8, 8, 8, 8, 8, 8, 8, 8, 8, 8, 8, 8, 8, 8]⟩ : ByteArray) ((a0 / 256) % 256)))))) else (none)) else (none)) else (if 0 ≤ ((a0) % 256) then (if ((a0) % 256) < 256 then (some (wrap64 (0 + (wrap64 (bt (⟨#[0, 1, 2, 2, 3, 3, 3, 3, 4, 4, 4, 4, 4, 4, 4, 4, 5, 5, 5, 5, 5, 5, 5, 5, 5, 5, 5, 5, 5, 5, 5, 5, 6, 6, 6, 6, 6, 6, 6, 6, 6, 6, 6, 6, 6, 6, 6, 6, 6, 6, 6, 6, 6, 6, 6, 6, 6, 6, 6, 6, 6, 6, 6, 6, 7, 7, 7, 7, 7, 7, 7, 7, 7, 7, 7, 7, 7, 7, 7, 7, 7, 7, 7, 7, 7, 7, 7, 7, 7, 7, 7, 7, 7, 7, 7, 7, 7, 7, 7, 7, 7, 7, 7, 7, 7, 7, 7, 7, 7, 7, 7, 7, 7, 7, 7, 7, 7, 7, 7, 7, 7, 7, 7, 7, 7, 7, 7, 7, 8, 8, 8, 8, 8, 8, 8, 8, 8, 8, 8, 8, 8, 8, 8, 8, 8, 8, 8, 8, 8, 8, 8, 8, 8, 8, 8, 8, 8, 8, 8, 8, 8, 8, 8, 8, 8, 8, 8, 8, 8, 8, 8, 8, 8, 8, 8, 8, 8, 8, 8, 8, 8, 8, 8, 8, 8, 8, 8, 8, 8, 8, 8, 8, 8, 8, 8, 8, 8, 8, 8, 8, 8, 8, 8, 8, 8, 8, 8, 8, 8, 8, 8, 8, 8, 8, 8, 8, 8, 8, 8, 8, 8, 8, 8, 8, 8, 8, 8, 8, 8, 8, 8, 8, 8, 8, 8, 8, 8, 8, 8, 8, 8, 8, 8, 8, 8, 8, 8, 8, 8, 8, 8, 8, 8, 8, 8, 8]⟩ : ByteArray) ((a0) % 256)))))) else (none)) else (none)))) = some r := h
 clear h
 by_cases c2 : a0 ≥ 65536
 ·
  rw [if_pos c2] at H
  have c2b0 : decide (65536 ≤ a0) = true := decide_eq_true c2
  clear c2
  by_cases c3 : (a0 / 65536) ≥ 256
  ·
   rw [if_pos c3] at H
   have c3b0 : decide (256 ≤ (a0 / 65536)) = true := decide_eq_true c3
   clear c3
   obtain ⟨ji4, hji4⟩ : ∃ j_ : Int, (((a0 / 65536) / 256) % 256) = j_ := ⟨_, rfl⟩
   replace H : (if 0 ≤ (ji4) then (if (ji4) < 256 then (some (wrap64 ((16 + 8) + (wrap64 (bt (⟨#[0, 1, 2, 2, 3, 3, 3, 3, 4, 4, 4, 4, 4, 4, 4, 4, 5, 5, 5, 5, 5, 5, 5, 5, 5, 5, 5, 5, 5, 5, 5, 5, 6, 6, 6, 6, 6, 6, 6, 6, 6, 6, 6, 6, 6, 6, 6, 6, 6, 6, 6, 6, 6, 6, 6, 6, 6, 6, 6, 6, 6, 6, 6, 6, 7, 7, 7, 7, 7, 7, 7, 7, 7, 7, 7, 7, 7, 7, 7, 7, 7, 7, 7, 7, 7, 7, 7, 7, 7, 7, 7, 7, 7, 7, 7, 7, 7, 7, 7, 7, 7, 7, 7, 7, 7, 7, 7, 7, 7, 7, 7, 7, 7, 7, 7, 7, 7, 7, 7, 7, 7, 7, 7, 7, 7, 7, 7, 7, 8, 8, 8, 8, 8, 8, 8, 8, 8, 8, 8, 8, 8, 8, 8, 8, 8, 8, 8, 8, 8, 8, 8, 8, 8, 8, 8, 8, 8, 8, 8, 8, 8, 8, 8, 8, 8, 8, 8, 8, 8, 8, 8, 8, 8, 8, 8, 8, 8, 8, 8, 8, 8, 8, 8, 8, 8, 8, 8, 8, 8, 8, 8, 8, 8, 8, 8, 8, 8, 8, 8, 8, 8, 8, 8, 8, 8, 8, 8, 8, 8, 8, 8, 8, 8, 8, 8, 8, 8, 8, 8, 8, 8, 8, 8, 8, 8, 8, 8, 8, 8, 8, 8, 8, 8, 8, 8, 8, 8, 8, 8, 8, 8, 8, 8, 8, 8, 8, 8, 8, 8, 8, 8, 8, 8, 8, 8, 8]⟩ : ByteArray) (ji4)))))) else (none)) else (none)) = some r := by first | (rw [hji4] at H; exact H) | (simp only [hji4] at H ⊢; exact H)
   by_cases c5 : 0 ≤ (ji4)
   ·
    rw [if_pos c5] at H
    have c5b0 := decide_eq_true c5
    clear c5
    by_cases c6 : (ji4) < 256
    ·
     rw [if_pos c6] at H
     have c6b0 := decide_eq_true c6
     clear c6
     obtain rfl := Option.some.inj H
     have p7 : 0 ≤ ((ji4) : Int) := zD
     have q7 : (ji4) < (256 : Int) := zD
     have hx7 := bt_at (⟨#[0, 1, 2, 2, 3, 3, 3, 3, 4, 4, 4, 4, 4, 4, 4, 4, 5, 5, 5, 5, 5, 5, 5, 5, 5, 5, 5, 5, 5, 5, 5, 5, 6, 6, 6, 6, 6, 6, 6, 6, 6, 6, 6, 6, 6, 6, 6, 6, 6, 6, 6, 6, 6, 6, 6, 6, 6, 6, 6, 6, 6, 6, 6, 6, 7, 7, 7, 7, 7, 7, 7, 7, 7, 7, 7, 7, 7, 7, 7, 7, 7, 7, 7, 7, 7, 7, 7, 7, 7, 7, 7, 7, 7, 7, 7, 7, 7, 7, 7, 7, 7, 7, 7, 7, 7, 7, 7, 7, 7, 7, 7, 7, 7, 7, 7, 7, 7, 7, 7, 7, 7, 7, 7, 7, 7, 7, 7, 7, 8, 8, 8, 8, 8, 8, 8, 8, 8, 8, 8, 8, 8, 8, 8, 8, 8, 8, 8, 8, 8, 8, 8, 8, 8, 8, 8, 8, 8, 8, 8, 8, 8, 8, 8, 8, 8, 8, 8, 8, 8, 8, 8, 8, 8, 8, 8, 8, 8, 8, 8, 8, 8, 8, 8, 8, 8, 8, 8, 8, 8, 8, 8, 8, 8, 8, 8, 8, 8, 8, 8, 8, 8, 8, 8, 8, 8, 8, 8, 8, 8, 8, 8, 8, 8, 8, 8, 8, 8, 8, 8, 8, 8, 8, 8, 8, 8, 8, 8, 8, 8, 8, 8, 8, 8, 8, 8, 8, 8, 8, 8, 8, 8, 8, 8, 8, 8, 8, 8, 8, 8, 8, 8, 8, 8, 8, 8, 8]⟩ : ByteArray) (ji4)
     replace p7 := eq_true p7
     replace q7 := eq_true q7
     go_enter Tryd.func89, Tryd.ntmps89
     go_wp2
     go_ret
     exact ⟨by first | rfl | (simp; done) | (simp only [← hji4] <;> (first | rfl | simp)) | (simp [*]; done), zW⟩
    rw [if_neg c6] at H
    cases H
   rw [if_neg c5] at H
   cases H
  rw [if_neg c3] at H
  have c3b0 : decide (256 ≤ (a0 / 65536)) = false := decide_eq_false c3
  clear c3
  obtain ⟨ji8, hji8⟩ : ∃ j_ : Int, ((a0 / 65536) % 256) = j_ := ⟨_, rfl⟩
  replace H : (if 0 ≤ (ji8) then (if (ji8) < 256 then (some (wrap64 (16 + (wrap64 (bt (⟨#[0, 1, 2, 2, 3, 3, 3, 3, 4, 4, 4, 4, 4, 4, 4, 4, 5, 5, 5, 5, 5, 5, 5, 5, 5, 5, 5, 5, 5, 5, 5, 5, 6, 6, 6, 6, 6, 6, 6, 6, 6, 6, 6, 6, 6, 6, 6, 6, 6, 6, 6, 6, 6, 6, 6, 6, 6, 6, 6, 6, 6, 6, 6, 6, 7, 7, 7, 7, 7, 7, 7, 7, 7, 7, 7, 7, 7, 7, 7, 7, 7, 7, 7, 7, 7, 7, 7, 7, 7, 7, 7, 7, 7, 7, 7, 7, 7, 7, 7, 7, 7, 7, 7, 7, 7, 7, 7, 7, 7, 7, 7, 7, 7, 7, 7, 7, 7, 7, 7, 7, 7, 7, 7, 7, 7, 7, 7, 7, 8, 8, 8, 8, 8, 8, 8, 8, 8, 8, 8, 8, 8, 8, 8, 8, 8, 8, 8, 8, 8, 8, 8, 8, 8, 8, 8, 8, 8, 8, 8, 8, 8, 8, 8, 8, 8, 8, 8, 8, 8, 8, 8, 8, 8, 8, 8, 8, 8, 8, 8, 8, 8, 8, 8, 8, 8, 8, 8, 8, 8, 8, 8, 8, 8, 8, 8, 8, 8, 8, 8, 8, 8, 8, 8, 8, 8, 8, 8, 8, 8, 8, 8, 8, 8, 8, 8, 8, 8, 8, 8, 8, 8, 8, 8, 8, 8, 8, 8, 8, 8, 8, 8, 8, 8, 8, 8, 8, 8, 8, 8, 8, 8, 8, 8, 8, 8, 8, 8, 8, 8, 8, 8, 8, 8, 8, 8, 8]⟩ : ByteArray) (ji8)))))) else (none)) else (none)) = some r := by first | (rw [hji8] at H; exact H) | (simp only [hji8] at H ⊢; exact H)
  by_cases c9 : 0 ≤ (ji8)
  ·
   rw [if_pos c9] at H
   have c9b0 := decide_eq_true c9
   clear c9
   by_cases c10 : (ji8) < 256
   ·
    rw [if_pos c10] at H
    have c10b0 := decide_eq_true c10
    clear c10
    obtain rfl := Option.some.inj H
    have p11 : 0 ≤ ((ji8) : Int) := zD
    have q11 : (ji8) < (256 : Int) := zD
    have hx11 := bt_at (⟨#[0, 1, 2, 2, 3, 3, 3, 3, 4, 4, 4, 4, 4, 4, 4, 4, 5, 5, 5, 5, 5, 5, 5, 5, 5, 5, 5, 5, 5, 5, 5, 5, 6, 6, 6, 6, 6, 6, 6, 6, 6, 6, 6, 6, 6, 6, 6, 6, 6, 6, 6, 6, 6, 6, 6, 6, 6, 6, 6, 6, 6, 6, 6, 6, 7, 7, 7, 7, 7, 7, 7, 7, 7, 7, 7, 7, 7, 7, 7, 7, 7, 7, 7, 7, 7, 7, 7, 7, 7, 7, 7, 7, 7, 7, 7, 7, 7, 7, 7, 7, 7, 7, 7, 7, 7, 7, 7, 7, 7, 7, 7, 7, 7, 7, 7, 7, 7, 7, 7, 7, 7, 7, 7, 7, 7, 7, 7, 7, 8, 8, 8, 8, 8, 8, 8, 8, 8, 8, 8, 8, 8, 8, 8, 8, 8, 8, 8, 8, 8, 8, 8, 8, 8, 8, 8, 8, 8, 8, 8, 8, 8, 8, 8, 8, 8, 8, 8, 8, 8, 8, 8, 8, 8, 8, 8, 8, 8, 8, 8, 8, 8, 8, 8, 8, 8, 8, 8, 8, 8, 8, 8, 8, 8, 8, 8, 8, 8, 8, 8, 8, 8, 8, 8, 8, 8, 8, 8, 8, 8, 8, 8, 8, 8, 8, 8, 8, 8, 8, 8, 8, 8, 8, 8, 8, 8, 8, 8, 8, 8, 8, 8, 8, 8, 8, 8, 8, 8, 8, 8, 8, 8, 8, 8, 8, 8, 8, 8, 8, 8, 8, 8, 8, 8, 8, 8, 8]⟩ : ByteArray) (ji8)
    replace p11 := eq_true p11
    replace q11 := eq_true q11
    go_enter Tryd.func89, Tryd.ntmps89
    go_wp2
    go_ret
    exact ⟨by first | rfl | (simp; done) | (simp only [← hji8] <;> (first | rfl | simp)) | (simp [*]; done), zW⟩
   rw [if_neg c10] at H
   cases H
  rw [if_neg c9] at H
  cases H
 rw [if_neg c2] at H
 have c2b0 : decide (65536 ≤ a0) = false := decide_eq_false c2
 clear c2
 by_cases c12 : a0 ≥ 256
 ·
  rw [if_pos c12] at H
  have c12b0 : decide (256 ≤ a0) = true := decide_eq_true c12
  clear c12
  obtain ⟨ji13, hji13⟩ : ∃ j_ : Int, ((a0 / 256) % 256) = j_ := ⟨_, rfl⟩
  replace H : (if 0 ≤ (ji13) then (if (ji13) < 256 then (some (wrap64 ((0 + 8) + (wrap64 (bt (⟨#[0, 1, 2, 2, 3, 3, 3, 3, 4, 4, 4, 4, 4, 4, 4, 4, 5, 5, 5, 5, 5, 5, 5, 5, 5, 5, 5, 5, 5, 5, 5, 5, 6, 6, 6, 6, 6, 6, 6, 6, 6, 6, 6, 6, 6, 6, 6, 6, 6, 6, 6, 6, 6, 6, 6, 6, 6, 6, 6, 6, 6, 6, 6, 6, 7, 7, 7, 7, 7, 7, 7, 7, 7, 7, 7, 7, 7, 7, 7, 7, 7, 7, 7, 7, 7, 7, 7, 7, 7, 7, 7, 7, 7, 7, 7, 7, 7, 7, 7, 7, 7, 7, 7, 7, 7, 7, 7, 7, 7, 7, 7, 7, 7, 7, 7, 7, 7, 7, 7, 7, 7, 7, 7, 7, 7, 7, 7, 7, 8, 8, 8, 8, 8, 8, 8, 8, 8, 8, 8, 8, 8, 8, 8, 8, 8, 8, 8, 8, 8, 8, 8, 8, 8, 8, 8, 8, 8, 8, 8, 8, 8, 8, 8, 8, 8, 8, 8, 8, 8, 8, 8, 8, 8, 8, 8, 8, 8, 8, 8, 8, 8, 8, 8, 8, 8, 8, 8, 8, 8, 8, 8, 8, 8, 8, 8, 8, 8, 8, 8, 8, 8, 8, 8, 8, 8, 8, 8, 8, 8, 8, 8, 8, 8, 8, 8, 8, 8, 8, 8, 8, 8, 8, 8, 8, 8, 8, 8, 8, 8, 8, 8, 8, 8, 8, 8, 8, 8, 8, 8, 8, 8, 8, 8, 8, 8, 8, 8, 8, 8, 8, 8, 8, 8, 8, 8, 8]⟩ : ByteArray) (ji13)))))) else (none)) else (none)) = some r := by first | (rw [hji13] at H; exact H) | (simp only [hji13] at H ⊢; exact H)
  by_cases c14 : 0 ≤ (ji13)
  ·
   rw [if_pos c14] at H
   have c14b0 := decide_eq_true c14
   clear c14
   by_cases c15 : (ji13) < 256
   ·
    rw [if_pos c15] at H
    have c15b0 := decide_eq_true c15
    clear c15
    obtain rfl := Option.some.inj H
    have p16 : 0 ≤ ((ji13) : Int) := zD
    have q16 : (ji13) < (256 : Int) := zD
    have hx16 := bt_at (⟨#[0, 1, 2, 2, 3, 3, 3, 3, 4, 4, 4, 4, 4, 4, 4, 4, 5, 5, 5, 5, 5, 5, 5, 5, 5, 5, 5, 5, 5, 5, 5, 5, 6, 6, 6, 6, 6, 6, 6, 6, 6, 6, 6, 6, 6, 6, 6, 6, 6, 6, 6, 6, 6, 6, 6, 6, 6, 6, 6, 6, 6, 6, 6, 6, 7, 7, 7, 7, 7, 7, 7, 7, 7, 7, 7, 7, 7, 7, 7, 7, 7, 7, 7, 7, 7, 7, 7, 7, 7, 7, 7, 7, 7, 7, 7, 7, 7, 7, 7, 7, 7, 7, 7, 7, 7, 7, 7, 7, 7, 7, 7, 7, 7, 7, 7, 7, 7, 7, 7, 7, 7, 7, 7, 7, 7, 7, 7, 7, 8, 8, 8, 8, 8, 8, 8, 8, 8, 8, 8, 8, 8, 8, 8, 8, 8, 8, 8, 8, 8, 8, 8, 8, 8, 8, 8, 8, 8, 8, 8, 8, 8, 8, 8, 8, 8, 8, 8, 8, 8, 8, 8, 8, 8, 8, 8, 8, 8, 8, 8, 8, 8, 8, 8, 8, 8, 8, 8, 8, 8, 8, 8, 8, 8, 8, 8, 8, 8, 8, 8, 8, 8, 8, 8, 8, 8, 8, 8, 8, 8, 8, 8, 8, 8, 8, 8, 8, 8, 8, 8, 8, 8, 8, 8, 8, 8, 8, 8, 8, 8, 8, 8, 8, 8, 8, 8, 8, 8, 8, 8, 8, 8, 8, 8, 8, 8, 8, 8, 8, 8, 8, 8, 8, 8, 8, 8, 8]⟩ : ByteArray) (ji13)
    replace p16 := eq_true p16
    replace q16 := eq_true q16
    go_enter Tryd.func89, Tryd.ntmps89
    go_wp2
    go_ret
    exact ⟨by first | rfl | (simp; done) | (simp only [← hji13] <;> (first | rfl | simp)) | (simp [*]; done), zW⟩
   rw [if_neg c15] at H
   cases H
  rw [if_neg c14] at H
  cases H
 rw [if_neg c12] at H
 have c12b0 : decide (256 ≤ a0) = false := decide_eq_false c12
 clear c12
 obtain ⟨ji17, hji17⟩ : ∃ j_ : Int, ((a0) % 256) = j_ := ⟨_, rfl⟩
 replace H : (if 0 ≤ (ji17) then (if (ji17) < 256 then (some (wrap64 (0 + (wrap64 (bt (⟨#[0, 1, 2, 2, 3, 3, 3, 3, 4, 4, 4, 4, 4, 4, 4, 4, 5, 5, 5, 5, 5, 5, 5, 5, 5, 5, 5, 5, 5, 5, 5, 5, 6, 6, 6, 6, 6, 6, 6, 6, 6, 6, 6, 6, 6, 6, 6, 6, 6, 6, 6, 6, 6, 6, 6, 6, 6, 6, 6, 6, 6, 6, 6, 6, 7, 7, 7, 7, 7, 7, 7, 7, 7, 7, 7, 7, 7, 7, 7, 7, 7, 7, 7, 7, 7, 7, 7, 7, 7, 7, 7, 7, 7, 7, 7, 7, 7, 7, 7, 7, 7, 7, 7, 7, 7, 7, 7, 7, 7, 7, 7, 7, 7, 7, 7, 7, 7, 7, 7, 7, 7, 7, 7, 7, 7, 7, 7, 7, 8, 8, 8, 8, 8, 8, 8, 8, 8, 8, 8, 8, 8, 8, 8, 8, 8, 8, 8, 8, 8, 8, 8, 8, 8, 8, 8, 8, 8, 8, 8, 8, 8, 8, 8, 8, 8, 8, 8, 8, 8, 8, 8, 8, 8, 8, 8, 8, 8, 8, 8, 8, 8, 8, 8, 8, 8, 8, 8, 8, 8, 8, 8, 8, 8, 8, 8, 8, 8, 8, 8, 8, 8, 8, 8, 8, 8, 8, 8, 8, 8, 8, 8, 8, 8, 8, 8, 8, 8, 8, 8, 8, 8, 8, 8, 8, 8, 8, 8, 8, 8, 8, 8, 8, 8, 8, 8, 8, 8, 8, 8, 8, 8, 8, 8, 8, 8, 8, 8, 8, 8, 8, 8, 8, 8, 8, 8, 8]⟩ : ByteArray) (ji17)))))) else (none)) else (none)) = some r := by first | (rw [hji17] at H; exact H) | (simp only [hji17] at H ⊢; exact H)
 by_cases c18 : 0 ≤ (ji17)
 ·
  rw [if_pos c18] at H
  have c18b0 := decide_eq_true c18
  clear c18
  by_cases c19 : (ji17) < 256
  ·
   rw [if_pos c19] at H
   have c19b0 := decide_eq_true c19
   clear c19
   obtain rfl := Option.some.inj H
   have p20 : 0 ≤ ((ji17) : Int) := zD
   have q20 : (ji17) < (256 : Int) := zD
   have hx20 := bt_at (⟨#[0, 1, 2, 2, 3, 3, 3, 3, 4, 4, 4, 4, 4, 4, 4, 4, 5, 5, 5, 5, 5, 5, 5, 5, 5, 5, 5, 5, 5, 5, 5, 5, 6, 6, 6, 6, 6, 6, 6, 6, 6, 6, 6, 6, 6, 6, 6, 6, 6, 6, 6, 6, 6, 6, 6, 6, 6, 6, 6, 6, 6, 6, 6, 6, 7, 7, 7, 7, 7, 7, 7, 7, 7, 7, 7, 7, 7, 7, 7, 7, 7, 7, 7, 7, 7, 7, 7, 7, 7, 7, 7, 7, 7, 7, 7, 7, 7, 7, 7, 7, 7, 7, 7, 7, 7, 7, 7, 7, 7, 7, 7, 7, 7, 7, 7, 7, 7, 7, 7, 7, 7, 7, 7, 7, 7, 7, 7, 7, 8, 8, 8, 8, 8, 8, 8, 8, 8, 8, 8, 8, 8, 8, 8, 8, 8, 8, 8, 8, 8, 8, 8, 8, 8, 8, 8, 8, 8, 8, 8, 8, 8, 8, 8, 8, 8, 8, 8, 8, 8, 8, 8, 8, 8, 8, 8, 8, 8, 8, 8, 8, 8, 8, 8, 8, 8, 8, 8, 8, 8, 8, 8, 8, 8, 8, 8, 8, 8, 8, 8, 8, 8, 8, 8, 8, 8, 8, 8, 8, 8, 8, 8, 8, 8, 8, 8, 8, 8, 8, 8, 8, 8, 8, 8, 8, 8, 8, 8, 8, 8, 8, 8, 8, 8, 8, 8, 8, 8, 8, 8, 8, 8, 8, 8, 8, 8, 8, 8, 8, 8, 8, 8, 8, 8, 8, 8, 8]⟩ : ByteArray) (ji17)
   replace p20 := eq_true p20
   replace q20 := eq_true q20
   go_enter Tryd.func89, Tryd.ntmps89
   go_wp2
   go_ret
   exact ⟨by first | rfl | (simp; done) | (simp only [← hji17] <;> (first | rfl | simp)) | (simp [*]; done), zW⟩
  rw [if_neg c19] at H
  cases H
 rw [if_neg c18] at H
 cases H

def bits_LeadingZeros32.f (a0 : Int) : Option (Int) := (bits_Len32.f a0).bind fun t164 => (some (wrap64 (32 - t164)))
set_option maxHeartbeats 8000000 in
set_option maxRecDepth 100000 in
theorem bits_LeadingZeros32.calls (a0 : Int) (r : Int) (w : World) (h : bits_LeadingZeros32.f a0 = some r) :
 Calls Tryd.prog 102 #[.int .u32 a0] w fun e w' => e = .returned (.int .i64 r) ∧ Drawn0 w w' := by
 have H : ((bits_Len32.f a0).bind fun t164 => (some (wrap64 (32 - t164)))) = some r := h
 clear h
 obtain ⟨t164, A20, H⟩ := zi H
 replace H : (some (wrap64 (32 - t164))) = some r := H
 have A2 := zA A20
 clear A20
 obtain rfl := Option.some.inj H
 go_enter Tryd.func102, Tryd.ntmps102
 go_wp2_with (first | ((with_reducible refine gate_callee (f := 89) rfl ?_); refine goesL_ (some 4) rfl rfl Tryd.func89 zk rfl #[.int .u32 a0] rfl zX ?_; (with_reducible refine (bits_Len32.calls a0 t164 _ A2.out).mono ?_); rintro e w' ⟨rfl, ⟨nd, rfl⟩⟩; refine ⟨_, rfl, ?_⟩))
 go_ret
 exact ⟨zS, zW⟩

def bignat_shiftLeft.l0 : Nat → List Int → Int → List Int → Int → Int → Int → Option (List Int)
 | 0, _, _, _, _, _, _ => none
 | k + 1, x0, x1, x7, x8, x13, x14 => if x14 < x13 then (if x14 < (x0.length : Int) then (if 0 ≤ x14 then (if 0 ≤ x1 then (if x14 < (x7.length : Int) then (bignat_shiftLeft.l0 k x0 x1 (x7.set (x14 : Int).toNat ((Go.bits .or .u64 x8 (shl .u64 (IntKind.u64.wrap (rd x0 x14)) x1)) % 4294967296)) ((Go.bits .or .u64 x8 (shl .u64 (IntKind.u64.wrap (rd x0 x14)) x1)) / 4294967296) x13 (wrap64 (x14 + 1))) else (none)) else (none)) else (none)) else (if 0 ≤ x14 then (if x14 < (x7.length : Int) then (bignat_shiftLeft.l0 k x0 x1 (x7.set (x14 : Int).toNat ((x8) % 4294967296)) (x8 / 4294967296) x13 (wrap64 (x14 + 1))) else (none)) else (none))) else (some x7)
def bignat_shiftLeft.f (k : Nat) (l0 : List Int) (a1 : Int) (a2 : Int) : Option (List Int) := if 0 ≤ a2 then (if (a2 : Int).toNat ≤ 70368744177664 then ((some (List.replicate (a2 : Int).toNat 0 : List Int)).bind fun y165 => (bignat_shiftLeft.l0 k l0 a1 y165 0 (y165.length : Int) 0)) else (none)) else (none)
theorem bignat_shiftLeft.mono_l : ∀ k, (∀ y0 y1 y2 y3 y4 y5, LeO (bignat_shiftLeft.l0 k y0 y1 y2 y3 y4 y5) (bignat_shiftLeft.l0 (k + 1) y0 y1 y2 y3 y4 y5))
 | 0 => fun _ _ _ _ _ _ r h => by simp [bignat_shiftLeft.l0] at h
 | k + 1 => by
  have ih0 := bignat_shiftLeft.mono_l k
  intro y0 y1 y2 y3 y4 y5
  unfold bignat_shiftLeft.l0
  exact zm1 ih0
theorem bignat_shiftLeft.mono : ∀ a0 a1 a2 k, LeO (bignat_shiftLeft.f k a0 a1 a2) (bignat_shiftLeft.f (k + 1) a0 a1 a2) := by
 intro a0 a1 a2 k
 have ih0 := bignat_shiftLeft.mono_l k
 unfold bignat_shiftLeft.f
 exact zm1 ih0
set_option maxHeartbeats 8000000 in
set_option maxRecDepth 100000 in
theorem bignat_shiftLeft.calls (k : Nat) (A0 : Option Addr) (c0 : Nat) (l0 : List Int) (a1 : Int) (a2 : Int) (r : List Int) (w : World) (hr0 : Kd.C (Kd.int .u32) w A0 l0.length l0) (hc0 : l0.length ≤ c0) (h : bignat_shiftLeft.f k l0 a1 a2 = some r) :
 Calls Tryd.prog 103 #[.slice A0 l0.length c0, .int .u64 a1, .int .i64 a2] w fun e w' => ∃ v0_ : Value, e = .returned (v0_) ∧ Kd.R (Kd.int .u32) 37 w' w.heap.size (fun _ => True) v0_ r ∧ Below w.heap.size w w' := by
 have HR0 := zA hr0
 have HC0 := zA hc0
 clear hr0 hc0
 have HB := zA (Below.refl w.heap.size w)
 have H : (if 0 ≤ a2 then (if (a2 : Int).toNat ≤ 70368744177664 then ((some (List.replicate (a2 : Int).toNat 0 : List Int)).bind fun y165 => (bignat_shiftLeft.l0 k l0 a1 y165 0 (y165.length : Int) 0)) else (none)) else (none)) = some r := h
 clear h
 by_cases c4 : 0 ≤ a2
 ·
  rw [if_pos c4] at H
  have c4b0 := eq_true c4
  have c4b1 := decide_eq_true c4
  clear c4
  by_cases c5 : (a2 : Int).toNat ≤ 70368744177664
  ·
   rw [if_pos c5] at H
   have c5b0 := eq_true c5
   have c5b1 := decide_eq_true c5
   clear c5
   obtain ⟨y165, hy165⟩ : ∃ y_ : List Int, y_ = (List.replicate (a2 : Int).toNat 0) := ⟨_, rfl⟩
   replace H : (bignat_shiftLeft.l0 k l0 a1 y165 0 (y165.length : Int) 0) = some r := by first | (rw [hy165]; with_reducible exact H) | (have H2_ := (Option.bind_some _ _).symm.trans H; rw [hy165]; with_reducible exact H2_) | (have H2_ := (Option.bind_some _ _).symm.trans H; with_reducible exact H2_) | with_reducible exact H | (rw [hy165]; exact H) | exact H
   have Ny165 := zA hy165
   clear hy165
   have H' := zA H
   clear H
   go_enter Tryd.func103, Tryd.ntmps103
   go_wp2_with (first | ((with_reducible refine gate_dst (N := 11) rfl ?_); refine Kd.R_make (Kd.int .u32) _ 37 rfl (N := 11) rfl 23 _ _ rfl a2 rfl rfl Tryd.underlying23 (.int .u32 0) 4 info37 rfl (by decide) (by omega) 0 (ok := fun _ => True) (okp := fun _ => True) rfl (fun _ hk => hk) trivial zD (Nat.le_trans (Nat.mul_le_mul_right _ (zD : a2.toNat ≤ 70368744177664)) (by omega)) (Below.refl _ _) (Nat.le_refl _) ?_; intro v166 w6 ho7 hb hg_ hnew_; clear hg_ hnew_; (first | rw [← Ny165.out] at ho7 | (simp only [Int.reduceToNat] at ho7; rw [← Ny165.out] at ho7)); have HO167 := zA (Kd.R_lower ho7 (below_size (zb HB rfl))); replace HB := zbb HB hb rfl; clear hb ho7; obtain ⟨Ao8, co8, eo8⟩ := Kd.R_slice HO167.out; subst eo8))
   go_loopg [8, 14] k (fun kq v8 v14 w' => ∃ (x7_1 : List Int) (x8_1 : Int) (x14_1 : Int), v8 = .int .u64 x8_1 ∧ v14 = .int .i64 x14_1 ∧ Aside0 (bignat_shiftLeft.l0 kq l0 a1 x7_1 x8_1 (y165.length : Int) x14_1 = some r) ∧ Aside0 (kq ≤ k) ∧ Aside0 (Kd.R (Kd.int .u32) 37 w' w.heap.size (fun _ => True) (.slice Ao8 y165.length co8) x7_1) ∧ Aside0 (Below w.heap.size w w'))
   case atStart => exact ⟨(y165), (0), (0), zS, zS, H', ⟨Nat.le_refl _⟩, ⟨zR HO167.out⟩, ⟨zH⟩⟩
   case round =>
    clear H'
    try clear c1
    try clear p2
    try clear c4
    try clear c4b0
    try clear c4b1
    try clear c5
    try clear c5b0
    try clear c5b1
    obtain ⟨x7_1, x8_1, x14_1, rfl, rfl, HA, HK1, HO_7, HB⟩ := hrel
    have hl7_1 := (Kd.R_reads' HO_7.out).1
    rw [hl7_1] at HO_7
    (try simp only [hl7_1])
    cases gk with
    | zero => exact absurd HA.out (by simp [bignat_shiftLeft.l0])
    | succ k1 =>
     have H := HA.out
     clear HA
     simp only [bignat_shiftLeft.l0] at H
     by_cases c9 : x14_1 < (y165.length : Int)
     ·
      rw [if_pos c9] at H
      have c9b0 := decide_eq_true c9
      (try (have c9b0h := c9b0; simp only [hl7_1] at c9b0h))
      clear c9
      by_cases c10 : x14_1 < (l0.length : Int)
      ·
       rw [if_pos c10] at H
       have c10b0 := decide_eq_true c10
       (try (have c10b0h := c10b0; simp only [hl7_1] at c10b0h))
       clear c10
       by_cases c11 : 0 ≤ x14_1
       ·
        rw [if_pos c11] at H
        have c11b0 := decide_eq_true c11
        clear c11
        by_cases c12 : 0 ≤ a1
        ·
         rw [if_pos c12] at H
         have c12b0 := eq_true c12
         have c12b1 := decide_eq_true c12
         clear c12
         obtain ⟨ji13, hji13⟩ : ∃ j_ : Int, (shl .u64 (IntKind.u64.wrap (rd l0 x14_1)) a1) = j_ := ⟨_, rfl⟩
         replace H : (if x14_1 < (x7_1.length : Int) then (bignat_shiftLeft.l0 k1 l0 a1 (x7_1.set (x14_1 : Int).toNat ((Go.bits .or .u64 x8_1 (ji13)) % 4294967296)) ((Go.bits .or .u64 x8_1 (ji13)) / 4294967296) (y165.length : Int) (wrap64 (x14_1 + 1))) else (none)) = some r := by first | (rw [hji13] at H; exact H) | (simp only [hji13] at H ⊢; exact H)
         have hji13_ : (IntKind.u64.wrap ((IntKind.u64.wrap (rd l0 x14_1)) * 2 ^ min a1.toNat 64)) = ji13 := hji13
         have hji13z : a1 ≤ 64 → (IntKind.u64.wrap ((IntKind.u64.wrap (rd l0 x14_1)) * 2 ^ a1.toNat)) = ji13 := shl_small hji13
         by_cases c14 : x14_1 < (x7_1.length : Int)
         ·
          rw [if_pos c14] at H
          have c14b0 := decide_eq_true c14
          (try (have c14b0h := c14b0; simp only [hl7_1] at c14b0h))
          clear c14
          obtain ⟨y169, hy169⟩ : ∃ y_ : List Int, y_ = (x7_1.set (x14_1 : Int).toNat ((Go.bits .or .u64 x8_1 (ji13)) % 4294967296)) := ⟨_, rfl⟩
          replace H : (bignat_shiftLeft.l0 k1 l0 a1 y169 ((Go.bits .or .u64 x8_1 (ji13)) / 4294967296) (y165.length : Int) (wrap64 (x14_1 + 1))) = some r := by first | (rw [hy169]; with_reducible exact H) | (have H2_ := (Option.bind_some _ _).symm.trans H; rw [hy169]; with_reducible exact H2_) | (have H2_ := (Option.bind_some _ _).symm.trans H; with_reducible exact H2_) | with_reducible exact H | (rw [hy169]; exact H) | exact H
          have Ny169 := zA hy169
          clear hy169
          have H' := zA H
          clear H
          have p168 : 0 ≤ (x14_1 : Int) := zD
          have q168 : x14_1 < (l0.length : Int) := zD
          obtain ⟨ad168, e168, hx168_0⟩ := Kd.at_int HR0.out x14_1 p168 q168
          cases e168
          replace hx168_0 := (HB.out.cell (World.block_lt_of_cell? w _ hx168_0)).trans hx168_0
          replace p168 := eq_true p168
          replace q168 := eq_true q168
          have p15 : 0 ≤ (x14_1 : Int) := zD
          have q15 : (x14_1 : Int) < ((x7_1.length : Int) : Int) := zD
          obtain ⟨go15, co15, eo15, gb15, gl15, cl15, HG15⟩ := Kd.R_form HO_7.out (by omega)
          (first | cases eo15 | (injection eo15 with ea_ en_ ec_; (first | subst ea_ | (injection ea_ with ea_; subst ea_)); subst ec_; clear en_))
          have GB15 := zA gb15
          have GG15 := zA HG15
          clear gb15 gl15 HG15
          obtain ⟨hx15_0, hf15_0⟩ := Kd.R_celln 0 HO_7.out (x14_1 : Int) p15 q15
          replace p15 := eq_true p15
          replace q15 := eq_true q15
          obtain ⟨hy16_, hz16_⟩ := Kd.R_celln 0 HO_7.out (x14_1 : Int) zD zD
          have HP16 := Kd.R_putg HO_7.out (x14_1 : Int) ((Go.bits .or .u64 x8_1 (ji13)) % 4294967296)
          go_wp2_with (first | ((with_reducible refine gate_store (t := 37) (p := 34) rfl ?_); refine store_event (t := 37) (p := 34) (v := ?vo_w17) (w1 := (wr.setCell ⟨go15, (x14_1 : Int).toNat, none⟩ (.int .u32 ((Go.bits .or .u64 x8_1 (ji13)) % 4294967296)))) ?hg ?ho ?hn ?hr ?_; (case ho => rfl); (case hg => rfl); (case hn => rfl); (case hr => first | (go_simp; done) | (go_simp; rfl)); intro w17 hw; have hg : wr.grownBy w17 (some go15) := (by rw [hw]; exact HP16.2); have hp_ : Kd.R (Kd.int .u32) 37 w17 w.heap.size (fun _ => True) (.slice (some ⟨go15, 0, none⟩) x7_1.length co8) y169 := (by rw [hw, Ny169.out]; exact HP16.1); clear HP16; replace HO_7 := zA (hp_); replace HB := zA ((by rw [hw]; exact below_set (HB.out) GB15.out : Below w.heap.size w w17)); clear hg hw hp_))
          (try simp only [← hl7_1])
          go_roundg k1
          case measure => have := HK1.out; omega
          case rel => exact ⟨(y169), ((Go.bits .or .u64 x8_1 (ji13)) / 4294967296), (wrap64 (x14_1 + 1)), (by first | rfl | (simp; done) | (simp only [← hji13] <;> (first | rfl | simp)) | (simp [*]; done)), zS, H', ⟨by have := HK1.out; omega⟩, ⟨by (try simp only [hl7_1]); (with_reducible repeat (first | apply Kd.R_alloc | apply Kd.R_drewN | apply Kd.R_drew)); exact HO_7.out⟩, ⟨zH⟩⟩
         rw [if_neg c14] at H
         cases H
        rw [if_neg c12] at H
        cases H
       rw [if_neg c11] at H
       cases H
      rw [if_neg c10] at H
      have c10b0 := decide_eq_false c10
      (try (have c10b0h := c10b0; simp only [hl7_1] at c10b0h))
      clear c10
      by_cases c18 : 0 ≤ x14_1
      ·
       rw [if_pos c18] at H
       have c18b0 := decide_eq_true c18
       clear c18
       by_cases c19 : x14_1 < (x7_1.length : Int)
       ·
        rw [if_pos c19] at H
        have c19b0 := decide_eq_true c19
        (try (have c19b0h := c19b0; simp only [hl7_1] at c19b0h))
        clear c19
        obtain ⟨y170, hy170⟩ : ∃ y_ : List Int, y_ = (x7_1.set (x14_1 : Int).toNat ((x8_1) % 4294967296)) := ⟨_, rfl⟩
        replace H : (bignat_shiftLeft.l0 k1 l0 a1 y170 (x8_1 / 4294967296) (y165.length : Int) (wrap64 (x14_1 + 1))) = some r := by first | (rw [hy170]; with_reducible exact H) | (have H2_ := (Option.bind_some _ _).symm.trans H; rw [hy170]; with_reducible exact H2_) | (have H2_ := (Option.bind_some _ _).symm.trans H; with_reducible exact H2_) | with_reducible exact H | (rw [hy170]; exact H) | exact H
        have Ny170 := zA hy170
        clear hy170
        have H' := zA H
        clear H
        have p20 : 0 ≤ (x14_1 : Int) := zD
        have q20 : (x14_1 : Int) < ((x7_1.length : Int) : Int) := zD
        obtain ⟨go20, co20, eo20, gb20, gl20, cl20, HG20⟩ := Kd.R_form HO_7.out (by omega)
        (first | cases eo20 | (injection eo20 with ea_ en_ ec_; (first | subst ea_ | (injection ea_ with ea_; subst ea_)); subst ec_; clear en_))
        have GB20 := zA gb20
        have GG20 := zA HG20
        clear gb20 gl20 HG20
        obtain ⟨hx20_0, hf20_0⟩ := Kd.R_celln 0 HO_7.out (x14_1 : Int) p20 q20
        replace p20 := eq_true p20
        replace q20 := eq_true q20
        obtain ⟨hy21_, hz21_⟩ := Kd.R_celln 0 HO_7.out (x14_1 : Int) zD zD
        have HP21 := Kd.R_putg HO_7.out (x14_1 : Int) ((x8_1) % 4294967296)
        go_wp2_with (first | ((with_reducible refine gate_store (t := 37) (p := 34) rfl ?_); refine store_event (t := 37) (p := 34) (v := ?vo_w22) (w1 := (wr.setCell ⟨go20, (x14_1 : Int).toNat, none⟩ (.int .u32 ((x8_1) % 4294967296)))) ?hg ?ho ?hn ?hr ?_; (case ho => rfl); (case hg => rfl); (case hn => rfl); (case hr => first | (go_simp; done) | (go_simp; rfl)); intro w22 hw; have hg : wr.grownBy w22 (some go20) := (by rw [hw]; exact HP21.2); have hp_ : Kd.R (Kd.int .u32) 37 w22 w.heap.size (fun _ => True) (.slice (some ⟨go20, 0, none⟩) x7_1.length co8) y170 := (by rw [hw, Ny170.out]; exact HP21.1); clear HP21; replace HO_7 := zA (hp_); replace HB := zA ((by rw [hw]; exact below_set (HB.out) GB20.out : Below w.heap.size w w22)); clear hg hw hp_))
        (try simp only [← hl7_1])
        go_roundg k1
        case measure => have := HK1.out; omega
        case rel => exact ⟨(y170), (x8_1 / 4294967296), (wrap64 (x14_1 + 1)), zS, zS, H', ⟨by have := HK1.out; omega⟩, ⟨by (try simp only [hl7_1]); (with_reducible repeat (first | apply Kd.R_alloc | apply Kd.R_drewN | apply Kd.R_drew)); exact HO_7.out⟩, ⟨zH⟩⟩
       rw [if_neg c19] at H
       cases H
      rw [if_neg c18] at H
      cases H
     rw [if_neg c9] at H
     have c9b0 := decide_eq_false c9
     (try (have c9b0h := c9b0; simp only [hl7_1] at c9b0h))
     clear c9
     obtain rfl := Option.some.inj H
     go_wp2
     go_ret
     exact ⟨_, zE, zR HO_7.out, zH⟩
  rw [if_neg c5] at H
  cases H
 rw [if_neg c4] at H
 cases H

end Go.Proofs.YtoeldfopjalpkaaDoor.Q

