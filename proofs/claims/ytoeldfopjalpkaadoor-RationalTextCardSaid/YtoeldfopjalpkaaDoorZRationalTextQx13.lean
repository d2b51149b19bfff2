/- Lemmas for the proof of one law of this seat (Qx13). -/
import Derived.Test.YtoeldfopjalpkaaDoorZRationalTextQx1
import Derived.Test.YtoeldfopjalpkaaDoorZRationalTextQx2
namespace Go.Proofs.YtoeldfopjalpkaaDoor.Q
open Go.RowKit Go.Proofs.YtoeldfopjalpkaaDoorW.PrintWords Go.Proofs.YtoeldfopjalpkaaDoorW.PrintLast Go.Proofs.YtoeldfopjalpkaaDoorW.PrintMore
attribute [local go_sem] max2_int min2_int max_two min_two max_three min_three max_four min_four   -- for this text's walks alone
set_option linter.unusedVariables false
set_option linter.unusedSimpArgs false

mutual
def bignat_Mul.j0 : Nat → List Int → List Int → Bool → Option (List Int)
 | 0, _, _, _ => none
 | k + 1, x0, x1, x22 => if x22 = true then (some ([] : List Int)) else (if 0 ≤ (wrap64 ((x0.length : Int) + (x1.length : Int))) then (if (wrap64 ((x0.length : Int) + (x1.length : Int)) : Int).toNat ≤ 70368744177664 then (bignat_Mul.l0 k x1 (List.replicate (wrap64 ((x0.length : Int) + (x1.length : Int)) : Int).toNat 0) x0 (x0.length : Int) 0) else (none)) else (none))
def bignat_Mul.l0 : Nat → List Int → List Int → List Int → Int → Int → Option (List Int)
 | 0, _, _, _, _, _ => none
 | k + 1, x1, x5, x29, x30, x31 => if x31 < x30 then (if 0 ≤ x31 then (if x31 < (x29.length : Int) then (bignat_Mul.l1 k x1 x5 x31 (rd x29 x31) 0 x29 x30 x31 x1 (x1.length : Int) 0) else (none)) else (none)) else ((bignat_trim.f k x5).bind fun t533 => (some t533))
def bignat_Mul.l1 : Nat → List Int → List Int → Int → Int → Int → List Int → Int → Int → List Int → Int → Int → Option (List Int)
 | 0, _, _, _, _, _, _, _, _, _, _, _ => none
 | k + 1, x1, x5, x6, x7, x8, x29, x30, x31, x36, x37, x38 => if x38 < x37 then (if 0 ≤ x38 then (if x38 < (x36.length : Int) then (if 0 ≤ (wrap64 (x6 + x38)) then (if (wrap64 (x6 + x38)) < (x5.length : Int) then (bignat_Mul.l1 k x1 (x5.set ((wrap64 (x6 + x38)) : Int).toNat ((IntKind.u64.wrap (x8 + (IntKind.u64.wrap ((IntKind.u64.wrap ((IntKind.u64.wrap (x7)) * (IntKind.u64.wrap (rd x36 x38)))) + (IntKind.u64.wrap (rd x5 (wrap64 (x6 + x38)))))))) % 4294967296)) x6 x7 ((IntKind.u64.wrap (x8 + (IntKind.u64.wrap ((IntKind.u64.wrap ((IntKind.u64.wrap (x7)) * (IntKind.u64.wrap (rd x36 x38)))) + (IntKind.u64.wrap (rd x5 (wrap64 (x6 + x38)))))))) / 4294967296) x29 x30 x31 x36 x37 (wrap64 (x38 + 1))) else (none)) else (none)) else (none)) else (none)) else (if 0 ≤ (wrap64 (x6 + (x1.length : Int))) then (if (wrap64 (x6 + (x1.length : Int))) < (x5.length : Int) then (bignat_Mul.l0 k x1 (x5.set ((wrap64 (x6 + (x1.length : Int))) : Int).toNat ((x8) % 4294967296)) x29 x30 (wrap64 (x31 + 1))) else (none)) else (none))
end
def bignat_Mul.f (k : Nat) (l0 : List Int) (l1 : List Int) : Option (List Int) := (bignat_trim.f k l0).bind fun t524 => ((bignat_trim.f k l1).bind fun t527 => (if (t524.length : Int) = 0 then (bignat_Mul.j0 k t524 t527 true) else (bignat_Mul.j0 k t524 t527 ((t527.length : Int) == 0))))
theorem bignat_Mul.mono_l : ∀ k, (∀ y0 y1 y2, LeO (bignat_Mul.j0 k y0 y1 y2) (bignat_Mul.j0 (k + 1) y0 y1 y2)) ∧ (∀ y0 y1 y2 y3 y4, LeO (bignat_Mul.l0 k y0 y1 y2 y3 y4) (bignat_Mul.l0 (k + 1) y0 y1 y2 y3 y4)) ∧ (∀ y0 y1 y2 y3 y4 y5 y6 y7 y8 y9 y10, LeO (bignat_Mul.l1 k y0 y1 y2 y3 y4 y5 y6 y7 y8 y9 y10) (bignat_Mul.l1 (k + 1) y0 y1 y2 y3 y4 y5 y6 y7 y8 y9 y10))
 | 0 => ⟨fun _ _ _ r h => by simp [bignat_Mul.j0] at h, fun _ _ _ _ _ r h => by simp [bignat_Mul.l0] at h, fun _ _ _ _ _ _ _ _ _ _ _ r h => by simp [bignat_Mul.l1] at h⟩
 | k + 1 => by
  obtain ⟨ih0, ih1, ih2⟩ := bignat_Mul.mono_l k
  refine ⟨?_, ?_, ?_⟩
  ·intro y0 y1 y2
   unfold bignat_Mul.j0
   exact zm4 ih0 ih1 ih2 bignat_trim.mono
  ·intro y0 y1 y2 y3 y4
   unfold bignat_Mul.l0
   exact zm4 ih0 ih1 ih2 bignat_trim.mono
  intro y0 y1 y2 y3 y4 y5 y6 y7 y8 y9 y10
  unfold bignat_Mul.l1
  exact zm4 ih0 ih1 ih2 bignat_trim.mono
theorem bignat_Mul.mono : ∀ a0 a1 k, LeO (bignat_Mul.f k a0 a1) (bignat_Mul.f (k + 1) a0 a1) := by
 intro a0 a1 k;obtain ⟨ih0, ih1, ih2⟩ := bignat_Mul.mono_l k;unfold bignat_Mul.f;exact zm4 ih0 ih1 ih2 bignat_trim.mono
set_option maxHeartbeats 8000000 in
set_option maxRecDepth 100000 in
theorem bignat_Mul.calls (k : Nat) (A0 : Option Addr) (c0 : Nat) (l0 : List Int) (A1 : Option Addr) (c1 : Nat) (l1 : List Int) (r : List Int) (w : World) (hr0 : Kd.C (Kd.int .u32) w A0 l0.length l0) (hc0 : l0.length ≤ c0) (hr1 : Kd.C (Kd.int .u32) w A1 l1.length l1) (hc1 : l1.length ≤ c1) (h : bignat_Mul.f k l0 l1 = some r) :
 Calls Tryd.prog 33 #[.slice A0 l0.length c0, .slice A1 l1.length c1] w fun e w' => ∃ v0_ : Value, e = .returned (v0_) ∧ Kd.R (Kd.int .u32) 37 w' w.heap.size (fun _ => True) v0_ r ∧ Below w.heap.size w w' := by
 have HR0 := zA hr0;have HC0 := zA hc0;clear hr0 hc0;have HR1 := zA hr1;have HC1 := zA hc1;clear hr1 hc1;have HB := zA (Below.refl w.heap.size w);have H : ((bignat_trim.f k l0).bind fun t524 => ((bignat_trim.f k l1).bind fun t527 => (if (t524.length : Int) = 0 then (bignat_Mul.j0 k t524 t527 true) else (bignat_Mul.j0 k t524 t527 ((t527.length : Int) == 0))))) = some r := h;clear h;obtain ⟨t524, A30, H⟩ := zi H;have A3 := zA A30;clear A30;obtain ⟨t527, A40, H⟩ := zi H;have A4 := zA A40;clear A40;have HC5 := zA H;clear H;go_enter Tryd.func33, Tryd.ntmps33
 go_upto_region 2 with (first | ((with_reducible refine gate_callee (f := 71) rfl ?_); refine goesL_ (some 12) rfl rfl Tryd.func71 zk rfl #[.slice A0 l0.length c0] rfl zX ?_; (with_reducible refine (bignat_trim.calls k (fun k_ => k_ < w.heap.size) _ _ l0 t524 _ ?side1 A3.out).mono ?_); (case side1 => exact Kd.V_mk HC0.out (Kd.F_below (Kd.C_F (Kd.heap_int .u32) HR0.out) (zb HB rfl))); rintro e w6 ⟨v525, rfl, ho0, hb⟩; refine ⟨_, rfl, ?_⟩; have HO526 := zvl ho0 HB rfl; replace HB := zbb HB hb rfl) | ((with_reducible refine gate_callee (f := 71) rfl ?_); refine goesL_ (some 14) rfl rfl Tryd.func71 zk rfl #[.slice A1 l1.length c1] rfl zX ?_; (with_reducible refine (bignat_trim.calls k (fun k_ => k_ < w.heap.size) _ _ l1 t527 _ ?side1 A4.out).mono ?_); (case side1 => exact Kd.V_mk HC1.out (Kd.F_below (Kd.C_F (Kd.heap_int .u32) HR1.out) (zb HB rfl))); rintro e w7 ⟨v528, rfl, ho0, hb⟩; refine ⟨_, rfl, ?_⟩; replace HO526 := zA (Kd.V_below (zv HO526 rfl) hb); have HO529 := zvl ho0 HB rfl; replace HB := zbb HB hb rfl))
 (try simp only [Act.put, List.setIfInBounds_toArray, List.set_cons_zero, List.set_cons_succ])
 go_cut [22] (fun v22 wc => ∃ (kq : Nat) (x22_4 : Bool), v22 = .bool x22_4 ∧ Aside0 (bignat_Mul.j0 kq t524 t527 x22_4 = some r) ∧ Aside0 (kq ≤ k) ∧ Aside0 (Kd.V (Kd.int .u32) 37 wc w.heap.size (fun _ => True) v525 t524) ∧ Aside0 (Kd.V (Kd.int .u32) 37 wc w.heap.size (fun _ => True) v528 t527) ∧ Aside0 (Below w.heap.size w wc))
 case first =>
  have H := HC5.out;clear HC5;by_cases c8 : (t524.length : Int) = 0
  ·rw [if_pos c8] at H;have c8b0 := beq_iff_eq.mpr c8;have c8b1 := bne_eq_false_iff_eq.mpr c8;clear c8;(first | rw [c8b0] | rw [c8b1] | (simp only [i64_w, i32_w]; rw [c8b0]) | skip);have H' := zA H;clear H;obtain ⟨Ao9, co9, eo9⟩ := Kd.V_slice HO526.out;subst eo9
   go_wp2
   go_meet
   case rel => exact ⟨_, (true), zS, H', ⟨by first | omega | exact Nat.le_refl _⟩, ⟨zV HO526.out⟩, ⟨zV HO529.out⟩, ⟨zH⟩⟩
  rw [if_neg c8] at H;have c8b0 := beq_eq_false_iff_ne.mpr c8;have c8b1 := bne_iff_ne.mpr c8;have c8b2 : ¬ (t524 = []) := fun h_ => c8 (by rw [h_]; rfl)
  (first | rw [c8b0] | rw [c8b1] | (simp only [i64_w, i32_w]; rw [c8b0]) | skip);have H' := zA H;clear H;obtain ⟨Ao10, co10, eo10⟩ := Kd.V_slice HO526.out;subst eo10;obtain ⟨Ao11, co11, eo11⟩ := Kd.V_slice HO529.out;subst eo11
  go_wp2
  go_meet
  case rel => exact ⟨_, (((t527.length : Int) == 0)), zS, H', ⟨by first | omega | exact Nat.le_refl _⟩, ⟨zV HO526.out⟩, ⟨zV HO529.out⟩, ⟨zH⟩⟩
 case rest =>
  clear HC5;obtain ⟨kq, x22_4, rfl, HA, HJ4, HO_0, HO_1, HB⟩ := hcut;cases kq with
  | zero => exact absurd HA.out (by simp [bignat_Mul.j0])
  | succ kj4 =>
   have H := HA.out;clear HA;simp only [bignat_Mul.j0] at H;by_cases c12 : x22_4 = true
   ·subst c12;have H1 : (some ([] : List Int)) = some r := by rw [if_pos rfl] at H; exact H
    clear H;have H := H1;clear H1;obtain rfl := Option.some.inj H
    go_wp2
    go_ret
    exact ⟨_, zE, by first | exact Kd.R_nil _ _ _ _ _ | exact Kd.V_nil _ _ _ _ _, zH⟩
   replace c12 := Bool.eq_false_iff.mpr c12;subst c12;have H1 : (if 0 ≤ (wrap64 ((t524.length : Int) + (t527.length : Int))) then (if (wrap64 ((t524.length : Int) + (t527.length : Int)) : Int).toNat ≤ 70368744177664 then (bignat_Mul.l0 kj4 t527 (List.replicate (wrap64 ((t524.length : Int) + (t527.length : Int)) : Int).toNat 0) t524 (t524.length : Int) 0) else (none)) else (none)) = some r := by rw [if_neg (show ¬ (false = true) by decide)] at H; exact H
   clear H;have H := H1;clear H1;obtain ⟨ji13, hji13⟩ : ∃ j_ : Int, (wrap64 ((t524.length : Int) + (t527.length : Int))) = j_ := ⟨_, rfl⟩
   first | rw [hji13] at H | simp only [hji13] at H
   have hji13w : (IntKind.i64.wrap ((t524.length : Int) + (t527.length : Int))) = ji13 := (i64_w _).trans hji13;by_cases c14 : 0 ≤ (ji13)
   ·rw [if_pos c14] at H;have c14b0 := eq_true c14;have c14b1 := decide_eq_true c14;clear c14;by_cases c15 : (ji13 : Int).toNat ≤ 70368744177664
    ·rw [if_pos c15] at H;have c15b0 := eq_true c15;have c15b1 := decide_eq_true c15;clear c15;obtain ⟨y530, hy530⟩ : ∃ y_ : List Int, y_ = (List.replicate (ji13 : Int).toNat 0) := ⟨_, rfl⟩;replace H : (bignat_Mul.l0 kj4 t527 y530 t524 (t524.length : Int) 0) = some r := zY hy530 H;have Ny530 := zA hy530;clear hy530;have H' := zA H;clear H;obtain ⟨Ao16, co16, eo16⟩ := Kd.V_slice HO_0.out;subst eo16;obtain ⟨Ao17, co17, eo17⟩ := Kd.V_slice HO_1.out;subst eo17
     go_wp2_with (first | ((with_reducible refine gate_dst (N := 28) rfl ?_); (try (refine gate_guard (by rfl) ?_; dsimp only)); refine Kd.R_make (Kd.int .u32) _ 37 rfl (N := 28) rfl 23 _ _ rfl ji13 rfl rfl Tryd.underlying23 (.int .u32 0) 4 info37 rfl (by decide) (by omega) 0 (ok := fun _ => True) (okp := fun _ => True) rfl (fun _ hk => hk) trivial zD (Nat.le_trans (Nat.mul_le_mul_right _ (zD : ji13.toNat ≤ 70368744177664)) (by omega)) (Below.refl _ _) (Nat.le_refl _) ?_; intro v531 w18 ho19 hb hg_ hnew_; clear hg_ hnew_; (first | rw [← Ny530.out] at ho19 | (simp only [Int.reduceToNat] at ho19; rw [← Ny530.out] at ho19)); replace HO_0 := zA (Kd.V_elder' (zv HO_0 rfl) (Kd.R_base ho19) hb); replace HO_1 := zA (Kd.V_elder' (zv HO_1 rfl) (Kd.R_base ho19) hb); have HO532 := zlo ho19 HB rfl; replace HB := zbb HB hb rfl; clear hb ho19))
     go_loopg [31] kj4 (fun kq v31 w' => ∃ (x5_2 : List Int) (x31_2 : Int), v31 = .int .i64 x31_2 ∧ Aside0 (bignat_Mul.l0 kq t527 x5_2 t524 (t524.length : Int) x31_2 = some r) ∧ Aside0 (kq ≤ kj4) ∧ Aside0 (Kd.V (Kd.int .u32) 37 w' w.heap.size (fun k_ => some k_ ≠ (v531 : Value).ownBlock) (.slice Ao17 t527.length co17) t527) ∧ Aside0 (Kd.R (Kd.int .u32) 37 w' w.heap.size (fun _ => True) v531 x5_2) ∧ Aside0 (Kd.V (Kd.int .u32) 37 w' w.heap.size (fun k_ => some k_ ≠ (v531 : Value).ownBlock) (.slice Ao16 t524.length co16) t524) ∧ Aside0 (Below w.heap.size w w'))
     case atStart => exact ⟨(y530), (0), zS, H', ⟨Nat.le_refl _⟩, ⟨zVM HO_1.out (fun _ hk => hk.2)⟩, ⟨zR HO532.out⟩, ⟨zVM HO_0.out (fun _ hk => hk.2)⟩, ⟨zH⟩⟩
     case round =>
      clear H';obtain ⟨x5_2, x31_2, rfl, HA, HK2, HO_1, HO_5, HO_29, HB⟩ := hrel;cases gk with
      | zero => exact absurd HA.out (by simp [bignat_Mul.l0])
      | succ k2 =>
       have H := HA.out;clear HA;simp only [bignat_Mul.l0] at H;by_cases c20 : x31_2 < (t524.length : Int)
       ·rw [if_pos c20] at H;have c20b0 := decide_eq_true c20;clear c20;by_cases c21 : 0 ≤ x31_2
        ·rw [if_pos c21] at H;have c21b0 := decide_eq_true c21;clear c21;by_cases c22 : x31_2 < (t524.length : Int)
         ·rw [if_pos c22] at H;have c22b0 := decide_eq_true c22;clear c22;have H' := zA H;clear H;have p536 : 0 ≤ (x31_2 : Int) := zD;have q536 : x31_2 < (t524.length : Int) := zD;obtain ⟨ad536, e536, hx536_0⟩ := Kd.at_int (Kd.V_reads' HO_29.out).2.2 x31_2 p536 q536;cases e536;replace p536 := eq_true p536;replace q536 := eq_true q536
          go_wp2
          go_loopg [8, 38] k2 (fun kq v8 v38 w' => ∃ (x5_3 : List Int) (x8_3 : Int) (x38_3 : Int), v8 = .int .u64 x8_3 ∧ v38 = .int .i64 x38_3 ∧ Aside0 (bignat_Mul.l1 kq t527 x5_3 x31_2 (rd t524 x31_2) x8_3 t524 (t524.length : Int) x31_2 t527 (t527.length : Int) x38_3 = some r) ∧ Aside0 (kq ≤ k2) ∧ Aside0 (Kd.V (Kd.int .u32) 37 w' w.heap.size (fun k_ => some k_ ≠ (v531 : Value).ownBlock) (.slice Ao17 t527.length co17) t527) ∧ Aside0 (Kd.R (Kd.int .u32) 37 w' w.heap.size (fun _ => True) v531 x5_3) ∧ Aside0 (Kd.V (Kd.int .u32) 37 w' w.heap.size (fun k_ => some k_ ≠ (v531 : Value).ownBlock) (.slice (some ad536) t524.length co16) t524) ∧ Aside0 (Kd.V (Kd.int .u32) 37 w' w.heap.size (fun k_ => some k_ ≠ (v531 : Value).ownBlock) (.slice Ao17 t527.length co17) t527) ∧ Aside0 (Below w.heap.size w w'))
          case atStart => exact ⟨(x5_2), (0), (0), zS, zS, H', ⟨Nat.le_refl _⟩, ⟨zV HO_1.out⟩, ⟨zR HO_5.out⟩, ⟨zV HO_29.out⟩, ⟨zV HO_1.out⟩, ⟨zH⟩⟩
          case round =>
           clear H'
           try clear hx5
           try clear hx536_0
           obtain ⟨x5_3, x8_3, x38_3, rfl, rfl, HA, HK3, HO_1, HO_5, HO_29, HO_36, HB⟩ := hrel;cases gk with
           | zero => exact absurd HA.out (by simp [bignat_Mul.l1])
           | succ k3 =>
            have H := HA.out;clear HA;simp only [bignat_Mul.l1] at H;by_cases c23 : x38_3 < (t527.length : Int)
            ·rw [if_pos c23] at H;have c23b0 := decide_eq_true c23;clear c23;by_cases c24 : 0 ≤ x38_3
             ·rw [if_pos c24] at H;have c24b0 := decide_eq_true c24;clear c24;by_cases c25 : x38_3 < (t527.length : Int)
              ·rw [if_pos c25] at H;have c25b0 := decide_eq_true c25;clear c25;obtain ⟨ji26, hji26⟩ : ∃ j_ : Int, (wrap64 (x31_2 + x38_3)) = j_ := ⟨_, rfl⟩
               first | rw [hji26] at H | simp only [hji26] at H
               have hji26w : (IntKind.i64.wrap (x31_2 + x38_3)) = ji26 := (i64_w _).trans hji26;(try (have hji26r := hji26; simp only [hji13] at hji26r));(try (have hji26wr := hji26w; simp only [hji13] at hji26wr));by_cases c27 : 0 ≤ (ji26)
               ·rw [if_pos c27] at H;have c27b0 := decide_eq_true c27;clear c27;by_cases c28 : (ji26) < (x5_3.length : Int)
                ·rw [if_pos c28] at H;have c28b0 := decide_eq_true c28;clear c28;obtain ⟨y539, hy539⟩ : ∃ y_ : List Int, y_ = (x5_3.set ((ji26) : Int).toNat ((IntKind.u64.wrap (x8_3 + (IntKind.u64.wrap ((IntKind.u64.wrap ((IntKind.u64.wrap ((rd t524 x31_2))) * (IntKind.u64.wrap (rd t527 x38_3)))) + (IntKind.u64.wrap (rd x5_3 (ji26))))))) % 4294967296)) := ⟨_, rfl⟩;replace H : (bignat_Mul.l1 k3 t527 y539 x31_2 (rd t524 x31_2) ((IntKind.u64.wrap (x8_3 + (IntKind.u64.wrap ((IntKind.u64.wrap ((IntKind.u64.wrap ((rd t524 x31_2))) * (IntKind.u64.wrap (rd t527 x38_3)))) + (IntKind.u64.wrap (rd x5_3 (ji26))))))) / 4294967296) t524 (t524.length : Int) x31_2 t527 (t527.length : Int) (wrap64 (x38_3 + 1))) = some r := zY hy539 H;have Ny539 := zA hy539;clear hy539;have H' := zA H;clear H;have p537 : 0 ≤ (x38_3 : Int) := zD;have q537 : x38_3 < (t527.length : Int) := zD;obtain ⟨ad537, e537, hx537_0⟩ := Kd.at_int (Kd.V_reads' HO_36.out).2.2 x38_3 p537 q537;cases e537;replace p537 := eq_true p537;replace q537 := eq_true q537;obtain ⟨Ao30, co30, eo30⟩ := Kd.R_slice HO_5.out;subst eo30;have p538 : 0 ≤ ((ji26) : Int) := zD;have q538 : (ji26) < (x5_3.length : Int) := zD;obtain ⟨ad538, e538, hx538_0⟩ := Kd.at_int (Kd.R_reads' HO_5.out).2.2 (ji26) p538 q538;cases e538;replace p538 := eq_true p538;replace q538 := eq_true q538;have p29 : 0 ≤ ((ji26) : Int) := zD;have q29 : ((ji26) : Int) < ((x5_3.length : Int) : Int) := zD;obtain ⟨go29, co29, eo29, gb29, gl29, cl29, HG29⟩ := Kd.R_form HO_5.out (by omega);(first | cases eo29 | (injection eo29 with ea_ en_ ec_; (first | subst ea_ | (injection ea_ with ea_; subst ea_)); subst ec_; clear en_));have GB29 := zA gb29;have GG29 := zA HG29;clear gb29 gl29 HG29;(first | simp only [add_plain] at hx538_0 | skip);obtain ⟨hx29_0, hf29_0⟩ := Kd.R_celln 0 HO_5.out ((ji26) : Int) p29 q29;replace p29 := eq_true p29;replace q29 := eq_true q29;obtain ⟨hy31_, hz31_⟩ := Kd.R_celln 0 HO_5.out ((ji26) : Int) zD zD;have HP31 := Kd.R_putg HO_5.out ((ji26) : Int) ((IntKind.u64.wrap (x8_3 + (IntKind.u64.wrap ((IntKind.u64.wrap ((IntKind.u64.wrap ((rd t524 x31_2))) * (IntKind.u64.wrap (rd t527 x38_3)))) + (IntKind.u64.wrap (rd x5_3 (ji26))))))) % 4294967296)
                 go_wp2_with (first | ((with_reducible refine gate_store (t := 37) (p := 64) rfl ?_); refine store_event (t := 37) (p := 64) (v := ?vo_w32) (w1 := (wr.setCell ⟨go29, ((ji26) : Int).toNat, none⟩ (.int .u32 ((IntKind.u64.wrap (x8_3 + (IntKind.u64.wrap ((IntKind.u64.wrap ((IntKind.u64.wrap ((rd t524 x31_2))) * (IntKind.u64.wrap (rd t527 x38_3)))) + (IntKind.u64.wrap (rd x5_3 (ji26))))))) % 4294967296)))) ?hg ?ho ?hn ?hr ?_; (case ho => rfl); (case hg => rfl); (case hn => rfl); (case hr => first | (go_simp; done) | (go_simp; rfl)); intro w32 hw; have hg : wr.grownBy w32 (some go29) := (by rw [hw]; exact HP31.2); have hp_ : Kd.R (Kd.int .u32) 37 w32 w.heap.size (fun _ => True) (.slice (some ⟨go29, 0, none⟩) x5_3.length co30) y539 := (by rw [hw, Ny539.out]; exact HP31.1); clear HP31; replace HO_1 := zA (Kd.V_afterv (v := (.slice (some ⟨go29, 0, none⟩) x5_3.length co30)) (v1 := (.slice (some ⟨go29, 0, none⟩) x5_3.length co30)) (ok := (fun _ => True)) (zVM HO_1.out (fun _ hk => ⟨trivial, hk⟩)) hg (.inl rfl)); replace HO_5 := zA (hp_); replace HO_29 := zA (Kd.V_afterv (v := (.slice (some ⟨go29, 0, none⟩) x5_3.length co30)) (v1 := (.slice (some ⟨go29, 0, none⟩) x5_3.length co30)) (ok := (fun _ => True)) (zVM HO_29.out (fun _ hk => ⟨trivial, hk⟩)) hg (.inl rfl)); replace HO_36 := zA (Kd.V_afterv (v := (.slice (some ⟨go29, 0, none⟩) x5_3.length co30)) (v1 := (.slice (some ⟨go29, 0, none⟩) x5_3.length co30)) (ok := (fun _ => True)) (zVM HO_36.out (fun _ hk => ⟨trivial, hk⟩)) hg (.inl rfl)); replace HB := zA ((by rw [hw]; exact below_set (HB.out) GB29.out : Below w.heap.size w w32)); clear hg hw hp_))
                 go_roundg k3
                 case measure => have := HJ4.out; have := HK2.out; have := HK3.out; omega
                 case rel => exact ⟨(y539), ((IntKind.u64.wrap (x8_3 + (IntKind.u64.wrap ((IntKind.u64.wrap ((IntKind.u64.wrap ((rd t524 x31_2))) * (IntKind.u64.wrap (rd t527 x38_3)))) + (IntKind.u64.wrap (rd x5_3 (ji26))))))) / 4294967296), (wrap64 (x38_3 + 1)), (by first | rfl | (simp; done) | (simp only [← hji26] <;> (first | rfl | simp)) | (simp [*]; done)), zS, H', ⟨by have := HJ4.out; have := HK2.out; have := HK3.out; omega⟩, ⟨zVM HO_1.out (fun _ hk => hk.2)⟩, ⟨zR HO_5.out⟩, ⟨zVM HO_29.out (fun _ hk => hk.2)⟩, ⟨zVM HO_36.out (fun _ hk => hk.2)⟩, ⟨zH⟩⟩
                rw [if_neg c28] at H;cases H
               rw [if_neg c27] at H;cases H
              rw [if_neg c25] at H;cases H
             rw [if_neg c24] at H;cases H
            rw [if_neg c23] at H;have c23b0 := decide_eq_false c23;clear c23;obtain ⟨ji33, hji33⟩ : ∃ j_ : Int, (wrap64 (x31_2 + (t527.length : Int))) = j_ := ⟨_, rfl⟩
            first | rw [hji33] at H | simp only [hji33] at H
            have hji33w : (IntKind.i64.wrap (x31_2 + (t527.length : Int))) = ji33 := (i64_w _).trans hji33;(try (have hji33r := hji33; simp only [hji13] at hji33r));(try (have hji33wr := hji33w; simp only [hji13] at hji33wr));by_cases c34 : 0 ≤ (ji33)
            ·rw [if_pos c34] at H;have c34b0 := decide_eq_true c34;clear c34;by_cases c35 : (ji33) < (x5_3.length : Int)
             ·rw [if_pos c35] at H;have c35b0 := decide_eq_true c35;clear c35;obtain ⟨y540, hy540⟩ : ∃ y_ : List Int, y_ = (x5_3.set ((ji33) : Int).toNat ((x8_3) % 4294967296)) := ⟨_, rfl⟩;replace H : (bignat_Mul.l0 k3 t527 y540 t524 (t524.length : Int) (wrap64 (x31_2 + 1))) = some r := zY hy540 H;have Ny540 := zA hy540;clear hy540;have H' := zA H;clear H;have p36 : 0 ≤ ((ji33) : Int) := zD;have q36 : ((ji33) : Int) < ((x5_3.length : Int) : Int) := zD;obtain ⟨go36, co36, eo36, gb36, gl36, cl36, HG36⟩ := Kd.R_form HO_5.out (by omega);(first | cases eo36 | (injection eo36 with ea_ en_ ec_; (first | subst ea_ | (injection ea_ with ea_; subst ea_)); subst ec_; clear en_));have GB36 := zA gb36;have GG36 := zA HG36;clear gb36 gl36 HG36;obtain ⟨hx36_0, hf36_0⟩ := Kd.R_celln 0 HO_5.out ((ji33) : Int) p36 q36;replace p36 := eq_true p36;replace q36 := eq_true q36;obtain ⟨hy37_, hz37_⟩ := Kd.R_celln 0 HO_5.out ((ji33) : Int) zD zD;have HP37 := Kd.R_putg HO_5.out ((ji33) : Int) ((x8_3) % 4294967296)
              go_wp2_with (first | ((with_reducible refine gate_store (t := 37) (p := 75) rfl ?_); refine store_event (t := 37) (p := 75) (v := ?vo_w38) (w1 := (wr.setCell ⟨go36, ((ji33) : Int).toNat, none⟩ (.int .u32 ((x8_3) % 4294967296)))) ?hg ?ho ?hn ?hr ?_; (case ho => rfl); (case hg => rfl); (case hn => rfl); (case hr => first | (go_simp; done) | (go_simp; rfl)); intro w38 hw; have hg : wr.grownBy w38 (some go36) := (by rw [hw]; exact HP37.2); have hp_ : Kd.R (Kd.int .u32) 37 w38 w.heap.size (fun _ => True) (.slice (some ⟨go36, 0, none⟩) x5_3.length co36) y540 := (by rw [hw, Ny540.out]; exact HP37.1); clear HP37; replace HO_1 := zA (Kd.V_afterv (v := (.slice (some ⟨go36, 0, none⟩) x5_3.length co36)) (v1 := (.slice (some ⟨go36, 0, none⟩) x5_3.length co36)) (ok := (fun _ => True)) (zVM HO_1.out (fun _ hk => ⟨trivial, hk⟩)) hg (.inl rfl)); replace HO_5 := zA (hp_); replace HO_29 := zA (Kd.V_afterv (v := (.slice (some ⟨go36, 0, none⟩) x5_3.length co36)) (v1 := (.slice (some ⟨go36, 0, none⟩) x5_3.length co36)) (ok := (fun _ => True)) (zVM HO_29.out (fun _ hk => ⟨trivial, hk⟩)) hg (.inl rfl)); replace HO_36 := zA (Kd.V_afterv (v := (.slice (some ⟨go36, 0, none⟩) x5_3.length co36)) (v1 := (.slice (some ⟨go36, 0, none⟩) x5_3.length co36)) (ok := (fun _ => True)) (zVM HO_36.out (fun _ hk => ⟨trivial, hk⟩)) hg (.inl rfl)); replace HB := zA ((by rw [hw]; exact below_set (HB.out) GB36.out : Below w.heap.size w w38)); clear hg hw hp_))
              go_roundg k3
              case measure => have := HJ4.out; have := HK2.out; have := HK3.out; omega
              case rel => exact ⟨(y540), (wrap64 (x31_2 + 1)), zS, H', ⟨by have := HJ4.out; have := HK2.out; have := HK3.out; omega⟩, ⟨zVM HO_1.out (fun _ hk => hk.2)⟩, ⟨zR HO_5.out⟩, ⟨zVM HO_29.out (fun _ hk => hk.2)⟩, ⟨zH⟩⟩
             rw [if_neg c35] at H;cases H
            rw [if_neg c34] at H;cases H
         rw [if_neg c22] at H;cases H
        rw [if_neg c21] at H;cases H
       rw [if_neg c20] at H;have c20b0 := decide_eq_false c20;clear c20;obtain ⟨t533, A390, H⟩ := zi H;have A39 := zA A390;clear A390;obtain rfl := Option.some.inj H;obtain ⟨Ao40, co40, eo40⟩ := Kd.R_slice HO_5.out;subst eo40
       go_wp2_with (first | ((with_reducible refine gate_callee (f := 71) rfl ?_); refine goesL_ (some 78) rfl rfl Tryd.func71 zk rfl #[.slice Ao40 x5_2.length co40] rfl zX ?_; (with_reducible refine (bignat_trimO.calls k2 (fun k_ => some k_ = (.slice Ao40 x5_2.length co40 : Value).ownBlock) (.slice Ao40 x5_2.length co40) x5_2 t533 w _ ?side1 ?side2 A39.out).mono ?_); (case side1 => repeat (first | (with_reducible first | exact HB.out | apply below_alloc | apply pw_below_drewN | apply below_drew1) | exact HB.out)); (case side2 => exact Kd.R_tight rfl HO_5.out); rintro e w41 ⟨v534, rfl, ho0, hb, hkp⟩; refine ⟨_, rfl, ?_⟩; replace HO_1 := zA (Kd.V_mono (ok' := fun k_ => some k_ ≠ (v534 : Value).ownBlock) (Kd.V_keptB (HO_1.out) hkp (fun k_ hk_ hs_ => (hk_) hs_)) (fun k_ hk_ => fun e_ => Or.elim (ho0.1 k_ e_.symm) (fun hs_ => hk_.2.1 hs_) (fun hn_ => Nat.not_le.2 hk_.2.2 hn_))); replace HO_29 := zA (Kd.V_mono (ok' := fun k_ => some k_ ≠ (v534 : Value).ownBlock) (Kd.V_keptB (HO_29.out) hkp (fun k_ hk_ hs_ => (hk_) hs_)) (fun k_ hk_ => fun e_ => Or.elim (ho0.1 k_ e_.symm) (fun hs_ => hk_.2.1 hs_) (fun hn_ => Nat.not_le.2 hk_.2.2 hn_))); have HO535 := zA (Kd.R_mono (ok' := fun k_ => True) ho0 (fun k_ hk_ => trivial)); replace HB := zA (hb); clear HO_5; (try clear hkp)))
       go_ret
       exact ⟨_, by first | rfl | (simp [errW_none, errW_some] <;> rfl) | (simp only [← hji13]; first | rfl | (simp [errW_none, errW_some] <;> rfl)) | (simp [*, errW_none, errW_some] <;> rfl), zR HO535.out, zH⟩
    rw [if_neg c15] at H;cases H
   rw [if_neg c14] at H;cases H

def bignat_BitLen.f (k : Nat) (l0 : List Int) : Option (Int) := (bignat_trim.f k l0).bind fun t541 => (if (t541.length : Int) = 0 then (some 0) else (if 0 ≤ (wrap64 ((t541.length : Int) - 1)) then (if (wrap64 ((t541.length : Int) - 1)) < (t541.length : Int) then ((bits_Len32.f (rd t541 (wrap64 ((t541.length : Int) - 1)))).bind fun t545 => (some (wrap64 ((wrap64 (32 * (wrap64 ((t541.length : Int) - 1)))) + t545)))) else (none)) else (none)))
theorem bignat_BitLen.mono : ∀ a0 k, LeO (bignat_BitLen.f k a0) (bignat_BitLen.f (k + 1) a0) := by
 intro a0 k;unfold bignat_BitLen.f;exact zm1 bignat_trim.mono
set_option maxHeartbeats 8000000 in
set_option maxRecDepth 100000 in
theorem bignat_BitLen.calls (k : Nat) (A0 : Option Addr) (c0 : Nat) (l0 : List Int) (r : Int) (w : World) (hr0 : Kd.C (Kd.int .u32) w A0 l0.length l0) (hc0 : l0.length ≤ c0) (h : bignat_BitLen.f k l0 = some r) :
 Calls Tryd.prog 70 #[.slice A0 l0.length c0] w fun e w' => e = .returned (.int .i64 r) ∧ Below w.heap.size w w' := by
 have HR0 := zA hr0;have HC0 := zA hc0;clear hr0 hc0;have HB := zA (Below.refl w.heap.size w);have H : ((bignat_trim.f k l0).bind fun t541 => (if (t541.length : Int) = 0 then (some 0) else (if 0 ≤ (wrap64 ((t541.length : Int) - 1)) then (if (wrap64 ((t541.length : Int) - 1)) < (t541.length : Int) then ((bits_Len32.f (rd t541 (wrap64 ((t541.length : Int) - 1)))).bind fun t545 => (some (wrap64 ((wrap64 (32 * (wrap64 ((t541.length : Int) - 1)))) + t545)))) else (none)) else (none)))) = some r := h;clear h;obtain ⟨t541, A20, H⟩ := zi H;have A2 := zA A20;clear A20;by_cases c3 : (t541.length : Int) = 0
 ·rw [if_pos c3] at H;have c3b0 := beq_iff_eq.mpr c3;have c3b1 := bne_eq_false_iff_eq.mpr c3;clear c3;obtain rfl := Option.some.inj H;go_enter Tryd.func70, Tryd.ntmps70
  go_wp2_with (first | ((with_reducible refine gate_callee (f := 71) rfl ?_); refine goesL_ (some 4) rfl rfl Tryd.func71 zk rfl #[.slice A0 l0.length c0] rfl zX ?_; (with_reducible refine (bignat_trim.calls k (fun k_ => k_ < w.heap.size) _ _ l0 t541 _ ?side1 A2.out).mono ?_); (case side1 => exact Kd.V_mk HC0.out (Kd.F_below (Kd.C_F (Kd.heap_int .u32) HR0.out) (zb HB rfl))); rintro e w4 ⟨v542, rfl, ho0, hb⟩; refine ⟨_, rfl, ?_⟩; have HO543 := zvl ho0 HB rfl; replace HB := zbb HB hb rfl; obtain ⟨Ao5, co5, eo5⟩ := Kd.V_slice HO543.out; subst eo5))
  go_ret
  exact ⟨zE, zH⟩
 rw [if_neg c3] at H;have c3b0 := beq_eq_false_iff_ne.mpr c3;have c3b1 := bne_iff_ne.mpr c3;have c3b2 : ¬ (t541 = []) := fun h_ => c3 (by rw [h_]; rfl)
 obtain ⟨ji6, hji6⟩ : ∃ j_ : Int, (wrap64 ((t541.length : Int) - 1)) = j_ := ⟨_, rfl⟩
 first | rw [hji6] at H | simp only [hji6] at H
 (try rw [hji6] at A2);have hji6w : (IntKind.i64.wrap ((t541.length : Int) - 1)) = ji6 := (i64_w _).trans hji6;by_cases c7 : 0 ≤ (ji6)
 ·rw [if_pos c7] at H;have c7b0 := decide_eq_true c7;clear c7;by_cases c8 : (ji6) < (t541.length : Int)
  ·rw [if_pos c8] at H;have c8b0 := decide_eq_true c8;clear c8;obtain ⟨t545, A90, H⟩ := zi H;have A9 := zA A90;clear A90;obtain rfl := Option.some.inj H;go_enter Tryd.func70, Tryd.ntmps70
   go_wp2_with (first | ((with_reducible refine gate_callee (f := 71) rfl ?_); refine goesL_ (some 4) rfl rfl Tryd.func71 zk rfl #[.slice A0 l0.length c0] rfl zX ?_; (with_reducible refine (bignat_trim.calls k (fun k_ => k_ < w.heap.size) _ _ l0 t541 _ ?side1 A2.out).mono ?_); (case side1 => exact Kd.V_mk HC0.out (Kd.F_below (Kd.C_F (Kd.heap_int .u32) HR0.out) (zb HB rfl))); rintro e w10 ⟨v542, rfl, ho0, hb⟩; refine ⟨_, rfl, ?_⟩; have HO543 := zvl ho0 HB rfl; replace HB := zbb HB hb rfl; obtain ⟨Ao11, co11, eo11⟩ := Kd.V_slice HO543.out; subst eo11; have p544 : 0 ≤ ((ji6) : Int) := zD; have q544 : (ji6) < (t541.length : Int) := zD; obtain ⟨ad544, e544, hx544_0⟩ := Kd.at_int (Kd.V_reads' HO543.out).2.2 (ji6) p544 q544; cases e544; replace p544 := eq_true p544; replace q544 := eq_true q544) | ((with_reducible refine gate_callee (f := 89) rfl ?_); refine goesL_ (some 18) rfl rfl Tryd.func89 zk rfl #[.int .u32 (rd t541 (ji6))] rfl (by (try simp only [List.map_toArray, List.map_cons, List.map_nil]); first | done | (simp only [hji6]; rfl) | rfl | (simp only [List.length_drop, List.length_take]; rfl) | (go_simp; done) | (go_simp; rfl) | (go_simp; (try simp only [IntKind.wrap_u8, IntKind.wrap_u32, IntKind.wrap_u64]); omega)) ?_; (with_reducible refine (bits_Len32.calls (rd t541 (ji6)) t545 _ A9.out).mono ?_); rintro e w' ⟨rfl, ⟨nd, rfl⟩⟩; refine ⟨_, rfl, ?_⟩))
   go_ret
   exact ⟨by first | rfl | (simp [errW_none, errW_some] <;> rfl) | (simp only [← hji6]; first | rfl | (simp [errW_none, errW_some] <;> rfl)) | (simp [*, errW_none, errW_some] <;> rfl), zH⟩
  rw [if_neg c8] at H;cases H
 rw [if_neg c7] at H;cases H

def bits_Len64.j0 : Nat → Int → Int → Option (Int)
 | 0, _, _ => none
 | k + 1, x0, x2 => if x0 ≥ 65536 then (if (x0 / 65536) ≥ 256 then (if 0 ≤ (((x0 / 65536) / 256) % 256) then (if (((x0 / 65536) / 256) % 256) < 256 then (some (wrap64 ((wrap64 ((wrap64 (x2 + 16)) + 8)) + (wrap64 (bt zt (((x0 / 65536) / 256) % 256)))))) else (none)) else (none)) else (if 0 ≤ ((x0 / 65536) % 256) then (if ((x0 / 65536) % 256) < 256 then (some (wrap64 ((wrap64 (x2 + 16)) + (wrap64 (bt zt ((x0 / 65536) % 256)))))) else (none)) else (none))) else (if x0 ≥ 256 then (if 0 ≤ ((x0 / 256) % 256) then (if ((x0 / 256) % 256) < 256 then (some (wrap64 ((wrap64 (x2 + 8)) + (wrap64 (bt zt ((x0 / 256) % 256)))))) else (none)) else (none)) else (if 0 ≤ ((x0) % 256) then (if ((x0) % 256) < 256 then (some (wrap64 (x2 + (wrap64 (bt zt ((x0) % 256)))))) else (none)) else (none)))
def bits_Len64.f (k : Nat) (a0 : Int) : Option (Int) := if a0 ≥ 4294967296 then (bits_Len64.j0 k (a0 / 4294967296) 32) else (bits_Len64.j0 k a0 0)
theorem bits_Len64.mono_l : ∀ k, (∀ y0 y1, LeO (bits_Len64.j0 k y0 y1) (bits_Len64.j0 (k + 1) y0 y1))
 | 0 => fun _ _ r h => by simp [bits_Len64.j0] at h
 | k + 1 => by
  have ih0 := bits_Len64.mono_l k
  intro y0 y1
  unfold bits_Len64.j0
  exact zm1 ih0
theorem bits_Len64.mono : ∀ a0 k, LeO (bits_Len64.f k a0) (bits_Len64.f (k + 1) a0) := by
 intro a0 k;have ih0 := bits_Len64.mono_l k;unfold bits_Len64.f;exact zm1 ih0
set_option maxHeartbeats 8000000 in
set_option maxRecDepth 100000 in
theorem bits_Len64.calls (k : Nat) (a0 : Int) (r : Int) (w : World) (h : bits_Len64.f k a0 = some r) :
 Calls Tryd.prog 100 #[.int .u64 a0] w fun e w' => e = .returned (.int .i64 r) ∧ Drawn0 w w' := by
 have H : (if a0 ≥ 4294967296 then (bits_Len64.j0 k (a0 / 4294967296) 32) else (bits_Len64.j0 k a0 0)) = some r := h;clear h;have HC2 := zA H;clear H;go_enter Tryd.func100, Tryd.ntmps100
 go_upto_if 4 with (fail)
 go_cut [0, 2] (fun v0 v2 wc => ∃ (kq : Nat) (x0_1 : Int) (x2_1 : Int), v0 = .int .u64 x0_1 ∧ v2 = .int .i64 x2_1 ∧ Aside0 (bits_Len64.j0 kq x0_1 x2_1 = some r) ∧ Aside0 (kq ≤ k) ∧ Drawn0 w wc)
 case first =>
  have H := HC2.out;clear HC2;by_cases c3 : a0 ≥ 4294967296
  ·rw [if_pos c3] at H;have c3b0 : decide (4294967296 ≤ a0) = true := decide_eq_true c3;clear c3;(first | rw [c3b0] | rw [c3b1] | (simp only [i64_w, i32_w]; rw [c3b0]) | skip);have H' := zA H;clear H
   go_wp2
   go_meet
   case rel => exact ⟨_, (a0 / 4294967296), (32), zS, zS, H', ⟨by first | omega | exact Nat.le_refl _⟩, zW⟩
  rw [if_neg c3] at H;have c3b0 : decide (4294967296 ≤ a0) = false := decide_eq_false c3;clear c3;(first | rw [c3b0] | rw [c3b1] | (simp only [i64_w, i32_w]; rw [c3b0]) | skip);have H' := zA H;clear H
  go_wp2
  go_meet
  case rel => exact ⟨_, (a0), (0), zS, zS, H', ⟨by first | omega | exact Nat.le_refl _⟩, zW⟩
 case rest =>
  clear HC2;obtain ⟨kq, x0_1, x2_1, rfl, rfl, HA, HJ1, ⟨mc1, rfl⟩⟩ := hcut;cases kq with
  | zero => exact absurd HA.out (by simp [bits_Len64.j0])
  | succ kj1 =>
   have H := HA.out;clear HA;simp only [bits_Len64.j0] at H;by_cases c4 : x0_1 ≥ 65536
   ·rw [if_pos c4] at H;have c4b0 : decide (65536 ≤ x0_1) = true := decide_eq_true c4;clear c4;by_cases c5 : (x0_1 / 65536) ≥ 256
    ·rw [if_pos c5] at H;have c5b0 : decide (256 ≤ (x0_1 / 65536)) = true := decide_eq_true c5;clear c5;obtain ⟨ji6, hji6⟩ : ∃ j_ : Int, (((x0_1 / 65536) / 256) % 256) = j_ := ⟨_, rfl⟩
     first | rw [hji6] at H | simp only [hji6] at H
     by_cases c7 : 0 ≤ (ji6)
     ·rw [if_pos c7] at H;have c7b0 := decide_eq_true c7;clear c7;by_cases c8 : (ji6) < 256
      ·rw [if_pos c8] at H;have c8b0 := decide_eq_true c8;clear c8;obtain rfl := Option.some.inj H;have p9 : 0 ≤ ((ji6) : Int) := zD;have q9 : (ji6) < (256 : Int) := zD;have hx9 := bt_at zt (ji6);replace p9 := eq_true p9;replace q9 := eq_true q9
       go_wp2
       go_ret
       exact ⟨by first | rfl | (simp; done) | (simp only [← hji6] <;> (first | rfl | simp)) | (simp [*]; done), zW⟩
      rw [if_neg c8] at H;cases H
     rw [if_neg c7] at H;cases H
    rw [if_neg c5] at H;have c5b0 : decide (256 ≤ (x0_1 / 65536)) = false := decide_eq_false c5;clear c5;obtain ⟨ji10, hji10⟩ : ∃ j_ : Int, ((x0_1 / 65536) % 256) = j_ := ⟨_, rfl⟩
    first | rw [hji10] at H | simp only [hji10] at H
    by_cases c11 : 0 ≤ (ji10)
    ·rw [if_pos c11] at H;have c11b0 := decide_eq_true c11;clear c11;by_cases c12 : (ji10) < 256
     ·rw [if_pos c12] at H;have c12b0 := decide_eq_true c12;clear c12;obtain rfl := Option.some.inj H;have p13 : 0 ≤ ((ji10) : Int) := zD;have q13 : (ji10) < (256 : Int) := zD;have hx13 := bt_at zt (ji10);replace p13 := eq_true p13;replace q13 := eq_true q13
      go_wp2
      go_ret
      exact ⟨by first | rfl | (simp; done) | (simp only [← hji10] <;> (first | rfl | simp)) | (simp [*]; done), zW⟩
     rw [if_neg c12] at H;cases H
    rw [if_neg c11] at H;cases H
   rw [if_neg c4] at H;have c4b0 : decide (65536 ≤ x0_1) = false := decide_eq_false c4;clear c4;by_cases c14 : x0_1 ≥ 256
   ·rw [if_pos c14] at H;have c14b0 : decide (256 ≤ x0_1) = true := decide_eq_true c14;clear c14;obtain ⟨ji15, hji15⟩ : ∃ j_ : Int, ((x0_1 / 256) % 256) = j_ := ⟨_, rfl⟩
    first | rw [hji15] at H | simp only [hji15] at H
    by_cases c16 : 0 ≤ (ji15)
    ·rw [if_pos c16] at H;have c16b0 := decide_eq_true c16;clear c16;by_cases c17 : (ji15) < 256
     ·rw [if_pos c17] at H;have c17b0 := decide_eq_true c17;clear c17;obtain rfl := Option.some.inj H;have p18 : 0 ≤ ((ji15) : Int) := zD;have q18 : (ji15) < (256 : Int) := zD;have hx18 := bt_at zt (ji15);replace p18 := eq_true p18;replace q18 := eq_true q18
      go_wp2
      go_ret
      exact ⟨by first | rfl | (simp; done) | (simp only [← hji15] <;> (first | rfl | simp)) | (simp [*]; done), zW⟩
     rw [if_neg c17] at H;cases H
    rw [if_neg c16] at H;cases H
   rw [if_neg c14] at H;have c14b0 : decide (256 ≤ x0_1) = false := decide_eq_false c14;clear c14;obtain ⟨ji19, hji19⟩ : ∃ j_ : Int, ((x0_1) % 256) = j_ := ⟨_, rfl⟩
   first | rw [hji19] at H | simp only [hji19] at H
   by_cases c20 : 0 ≤ (ji19)
   ·rw [if_pos c20] at H;have c20b0 := decide_eq_true c20;clear c20;by_cases c21 : (ji19) < 256
    ·rw [if_pos c21] at H;have c21b0 := decide_eq_true c21;clear c21;obtain rfl := Option.some.inj H;have p22 : 0 ≤ ((ji19) : Int) := zD;have q22 : (ji19) < (256 : Int) := zD;have hx22 := bt_at zt (ji19);replace p22 := eq_true p22;replace q22 := eq_true q22
     go_wp2
     go_ret
     exact ⟨by first | rfl | (simp; done) | (simp only [← hji19] <;> (first | rfl | simp)) | (simp [*]; done), zW⟩
    rw [if_neg c21] at H;cases H
   rw [if_neg c20] at H;cases H

def bits_Len.f (k : Nat) (a0 : Int) : Option (Int) := (bits_Len64.f k a0).bind fun t546 => (some t546)
theorem bits_Len.mono : ∀ a0 k, LeO (bits_Len.f k a0) (bits_Len.f (k + 1) a0) := by
 intro a0 k;unfold bits_Len.f;exact zm1 bits_Len64.mono
set_option maxHeartbeats 8000000 in
set_option maxRecDepth 100000 in
theorem bits_Len.calls (k : Nat) (a0 : Int) (r : Int) (w : World) (h : bits_Len.f k a0 = some r) :
 Calls Tryd.prog 86 #[.int .u64 a0] w fun e w' => e = .returned (.int .i64 r) ∧ Drawn0 w w' := by
 have H : ((bits_Len64.f k a0).bind fun t546 => (some t546)) = some r := h;clear h;obtain ⟨t546, A20, H⟩ := zi H;have A2 := zA A20;clear A20;obtain rfl := Option.some.inj H;go_enter Tryd.func86, Tryd.ntmps86
 go_wp2_with (first | ((with_reducible refine gate_callee (f := 100) rfl ?_); refine goesL_ (some 7) rfl rfl Tryd.func100 zk rfl #[.int .u64 a0] rfl zX ?_; (with_reducible refine (bits_Len64.calls k a0 t546 _ A2.out).mono ?_); rintro e w' ⟨rfl, ⟨nd, rfl⟩⟩; refine ⟨_, rfl, ?_⟩))
 go_ret
 exact ⟨zS, zW⟩

end Go.Proofs.YtoeldfopjalpkaaDoor.Q

