/- Lemmas for the proof of one law of this seat (Qx2). -/
import Derived.Test.YtoeldfopjalpkaaDoorZRationalTextQx0
namespace Go.Proofs.YtoeldfopjalpkaaDoor.Q
open Go.RowKit Go.Proofs.YtoeldfopjalpkaaDoorW.PrintWords Go.Proofs.YtoeldfopjalpkaaDoorW.PrintLast Go.Proofs.YtoeldfopjalpkaaDoorW.PrintMore
attribute [local go_sem] max2_int min2_int max_two min_two max_three min_three max_four min_four   -- for this text's walks alone
set_option linter.unusedVariables false
set_option linter.unusedSimpArgs false

def bits_Len32.f (a0 : Int) : Option (Int) := if a0 ≥ 65536 then (if (a0 / 65536) ≥ 256 then (if 0 ≤ (((a0 / 65536) / 256) % 256) then (if (((a0 / 65536) / 256) % 256) < 256 then (some (wrap64 ((16 + 8) + (wrap64 (bt zt (((a0 / 65536) / 256) % 256)))))) else (none)) else (none)) else (if 0 ≤ ((a0 / 65536) % 256) then (if ((a0 / 65536) % 256) < 256 then (some (wrap64 (16 + (wrap64 (bt zt ((a0 / 65536) % 256)))))) else (none)) else (none))) else (if a0 ≥ 256 then (if 0 ≤ ((a0 / 256) % 256) then (if ((a0 / 256) % 256) < 256 then (some (wrap64 ((0 + 8) + (wrap64 (bt zt ((a0 / 256) % 256)))))) else (none)) else (none)) else (if 0 ≤ ((a0) % 256) then (if ((a0) % 256) < 256 then (some (wrap64 (0 + (wrap64 (bt zt ((a0) % 256)))))) else (none)) else (none)))
set_option maxHeartbeats 8000000 in
set_option maxRecDepth 100000 in
theorem bits_Len32.calls (a0 : Int) (r : Int) (w : World) (h : bits_Len32.f a0 = some r) :
 Calls Tryd.prog 89 #[.int .u32 a0] w fun e w' => e = .returned (.int .i64 r) ∧ Drawn0 w w' := by
 have H : (if a0 ≥ 65536 then (if (a0 / 65536) ≥ 256 then (if 0 ≤ (((a0 / 65536) / 256) % 256) then (if (((a0 / 65536) / 256) % 256) < 256 then (some (wrap64 ((16 + 8) + (wrap64 (bt zt (((a0 / 65536) / 256) % 256)))))) else (none)) else (none)) else (if 0 ≤ ((a0 / 65536) % 256) then (if ((a0 / 65536) % 256) < 256 then (some (wrap64 (16 + (wrap64 (bt zt ((a0 / 65536) % 256)))))) else (none)) else (none))) else (if a0 ≥ 256 then (if 0 ≤ ((a0 / 256) % 256) then (if ((a0 / 256) % 256) < 256 then (some (wrap64 ((0 + 8) + (wrap64 (bt zt ((a0 / 256) % 256)))))) else (none)) else (none)) else (if 0 ≤ ((a0) % 256) then (if ((a0) % 256) < 256 then (some (wrap64 (0 + (wrap64 (bt zt ((a0) % 256)))))) else (none)) else (none)))) = some r := h;clear h;by_cases c2 : a0 ≥ 65536
 ·rw [if_pos c2] at H;have c2b0 : decide (65536 ≤ a0) = true := decide_eq_true c2;clear c2;by_cases c3 : (a0 / 65536) ≥ 256
  ·rw [if_pos c3] at H;have c3b0 : decide (256 ≤ (a0 / 65536)) = true := decide_eq_true c3;clear c3;obtain ⟨ji4, hji4⟩ : ∃ j_ : Int, (((a0 / 65536) / 256) % 256) = j_ := ⟨_, rfl⟩
   first | rw [hji4] at H | simp only [hji4] at H
   by_cases c5 : 0 ≤ (ji4)
   ·rw [if_pos c5] at H;have c5b0 := decide_eq_true c5;clear c5;by_cases c6 : (ji4) < 256
    ·rw [if_pos c6] at H;have c6b0 := decide_eq_true c6;clear c6;obtain rfl := Option.some.inj H;have p7 : 0 ≤ ((ji4) : Int) := zD;have q7 : (ji4) < (256 : Int) := zD;have hx7 := bt_at zt (ji4);replace p7 := eq_true p7;replace q7 := eq_true q7;go_enter Tryd.func89, Tryd.ntmps89
     go_wp2
     go_ret
     exact ⟨by first | rfl | (simp; done) | (simp only [← hji4] <;> (first | rfl | simp)) | (simp [*]; done), zW⟩
    rw [if_neg c6] at H;cases H
   rw [if_neg c5] at H;cases H
  rw [if_neg c3] at H;have c3b0 : decide (256 ≤ (a0 / 65536)) = false := decide_eq_false c3;clear c3;obtain ⟨ji8, hji8⟩ : ∃ j_ : Int, ((a0 / 65536) % 256) = j_ := ⟨_, rfl⟩
  first | rw [hji8] at H | simp only [hji8] at H
  by_cases c9 : 0 ≤ (ji8)
  ·rw [if_pos c9] at H;have c9b0 := decide_eq_true c9;clear c9;by_cases c10 : (ji8) < 256
   ·rw [if_pos c10] at H;have c10b0 := decide_eq_true c10;clear c10;obtain rfl := Option.some.inj H;have p11 : 0 ≤ ((ji8) : Int) := zD;have q11 : (ji8) < (256 : Int) := zD;have hx11 := bt_at zt (ji8);replace p11 := eq_true p11;replace q11 := eq_true q11;go_enter Tryd.func89, Tryd.ntmps89
    go_wp2
    go_ret
    exact ⟨by first | rfl | (simp; done) | (simp only [← hji8] <;> (first | rfl | simp)) | (simp [*]; done), zW⟩
   rw [if_neg c10] at H;cases H
  rw [if_neg c9] at H;cases H
 rw [if_neg c2] at H;have c2b0 : decide (65536 ≤ a0) = false := decide_eq_false c2;clear c2;by_cases c12 : a0 ≥ 256
 ·rw [if_pos c12] at H;have c12b0 : decide (256 ≤ a0) = true := decide_eq_true c12;clear c12;obtain ⟨ji13, hji13⟩ : ∃ j_ : Int, ((a0 / 256) % 256) = j_ := ⟨_, rfl⟩
  first | rw [hji13] at H | simp only [hji13] at H
  by_cases c14 : 0 ≤ (ji13)
  ·rw [if_pos c14] at H;have c14b0 := decide_eq_true c14;clear c14;by_cases c15 : (ji13) < 256
   ·rw [if_pos c15] at H;have c15b0 := decide_eq_true c15;clear c15;obtain rfl := Option.some.inj H;have p16 : 0 ≤ ((ji13) : Int) := zD;have q16 : (ji13) < (256 : Int) := zD;have hx16 := bt_at zt (ji13);replace p16 := eq_true p16;replace q16 := eq_true q16;go_enter Tryd.func89, Tryd.ntmps89
    go_wp2
    go_ret
    exact ⟨by first | rfl | (simp; done) | (simp only [← hji13] <;> (first | rfl | simp)) | (simp [*]; done), zW⟩
   rw [if_neg c15] at H;cases H
  rw [if_neg c14] at H;cases H
 rw [if_neg c12] at H;have c12b0 : decide (256 ≤ a0) = false := decide_eq_false c12;clear c12;obtain ⟨ji17, hji17⟩ : ∃ j_ : Int, ((a0) % 256) = j_ := ⟨_, rfl⟩
 first | rw [hji17] at H | simp only [hji17] at H
 by_cases c18 : 0 ≤ (ji17)
 ·rw [if_pos c18] at H;have c18b0 := decide_eq_true c18;clear c18;by_cases c19 : (ji17) < 256
  ·rw [if_pos c19] at H;have c19b0 := decide_eq_true c19;clear c19;obtain rfl := Option.some.inj H;have p20 : 0 ≤ ((ji17) : Int) := zD;have q20 : (ji17) < (256 : Int) := zD;have hx20 := bt_at zt (ji17);replace p20 := eq_true p20;replace q20 := eq_true q20;go_enter Tryd.func89, Tryd.ntmps89
   go_wp2
   go_ret
   exact ⟨by first | rfl | (simp; done) | (simp only [← hji17] <;> (first | rfl | simp)) | (simp [*]; done), zW⟩
  rw [if_neg c19] at H;cases H
 rw [if_neg c18] at H;cases H

def bits_LeadingZeros32.f (a0 : Int) : Option (Int) := (bits_Len32.f a0).bind fun t155 => (some (wrap64 (32 - t155)))
set_option maxHeartbeats 8000000 in
set_option maxRecDepth 100000 in
theorem bits_LeadingZeros32.calls (a0 : Int) (r : Int) (w : World) (h : bits_LeadingZeros32.f a0 = some r) :
 Calls Tryd.prog 102 #[.int .u32 a0] w fun e w' => e = .returned (.int .i64 r) ∧ Drawn0 w w' := by
 have H : ((bits_Len32.f a0).bind fun t155 => (some (wrap64 (32 - t155)))) = some r := h;clear h;obtain ⟨t155, A20, H⟩ := zi H;have A2 := zA A20;clear A20;obtain rfl := Option.some.inj H;go_enter Tryd.func102, Tryd.ntmps102
 go_wp2_with (first | ((with_reducible refine gate_callee (f := 89) rfl ?_); refine goesL_ (some 4) rfl rfl Tryd.func89 zk rfl #[.int .u32 a0] rfl zX ?_; (with_reducible refine (bits_Len32.calls a0 t155 _ A2.out).mono ?_); rintro e w' ⟨rfl, ⟨nd, rfl⟩⟩; refine ⟨_, rfl, ?_⟩))
 go_ret
 exact ⟨zS, zW⟩

def bignat_shiftLeft.l0 : Nat → List Int → Int → List Int → Int → Int → Int → Option (List Int)
 | 0, _, _, _, _, _, _ => none
 | k + 1, x0, x1, x7, x8, x13, x14 => if x14 < x13 then (if x14 < (x0.length : Int) then (if 0 ≤ x14 then (if 0 ≤ x1 then (if x14 < (x7.length : Int) then (bignat_shiftLeft.l0 k x0 x1 (x7.set (x14 : Int).toNat ((Go.bits .or .u64 x8 (shl .u64 (IntKind.u64.wrap (rd x0 x14)) x1)) % 4294967296)) ((Go.bits .or .u64 x8 (shl .u64 (IntKind.u64.wrap (rd x0 x14)) x1)) / 4294967296) x13 (wrap64 (x14 + 1))) else (none)) else (none)) else (none)) else (if 0 ≤ x14 then (if x14 < (x7.length : Int) then (bignat_shiftLeft.l0 k x0 x1 (x7.set (x14 : Int).toNat ((x8) % 4294967296)) (x8 / 4294967296) x13 (wrap64 (x14 + 1))) else (none)) else (none))) else (some x7)
def bignat_shiftLeft.f (k : Nat) (l0 : List Int) (a1 : Int) (a2 : Int) : Option (List Int) := if 0 ≤ a2 then (if (a2 : Int).toNat ≤ 70368744177664 then ((some (List.replicate (a2 : Int).toNat 0 : List Int)).bind fun y156 => (bignat_shiftLeft.l0 k l0 a1 y156 0 (y156.length : Int) 0)) else (none)) else (none)
theorem bignat_shiftLeft.mono_l : ∀ k, (∀ y0 y1 y2 y3 y4 y5, LeO (bignat_shiftLeft.l0 k y0 y1 y2 y3 y4 y5) (bignat_shiftLeft.l0 (k + 1) y0 y1 y2 y3 y4 y5))
 | 0 => fun _ _ _ _ _ _ r h => by simp [bignat_shiftLeft.l0] at h
 | k + 1 => by
  have ih0 := bignat_shiftLeft.mono_l k
  intro y0 y1 y2 y3 y4 y5
  unfold bignat_shiftLeft.l0
  exact zm1 ih0
theorem bignat_shiftLeft.mono : ∀ a0 a1 a2 k, LeO (bignat_shiftLeft.f k a0 a1 a2) (bignat_shiftLeft.f (k + 1) a0 a1 a2) := by
 intro a0 a1 a2 k;have ih0 := bignat_shiftLeft.mono_l k;unfold bignat_shiftLeft.f;exact zm1 ih0
set_option maxHeartbeats 8000000 in
set_option maxRecDepth 100000 in
theorem bignat_shiftLeft.calls (k : Nat) (A0 : Option Addr) (c0 : Nat) (l0 : List Int) (a1 : Int) (a2 : Int) (r : List Int) (w : World) (hr0 : Kd.C (Kd.int .u32) w A0 l0.length l0) (hc0 : l0.length ≤ c0) (h : bignat_shiftLeft.f k l0 a1 a2 = some r) :
 Calls Tryd.prog 103 #[.slice A0 l0.length c0, .int .u64 a1, .int .i64 a2] w fun e w' => ∃ v0_ : Value, e = .returned (v0_) ∧ Kd.R (Kd.int .u32) 37 w' w.heap.size (fun _ => True) v0_ r ∧ Below w.heap.size w w' := by
 have HR0 := zA hr0;have HC0 := zA hc0;clear hr0 hc0;have HB := zA (Below.refl w.heap.size w);have H : (if 0 ≤ a2 then (if (a2 : Int).toNat ≤ 70368744177664 then ((some (List.replicate (a2 : Int).toNat 0 : List Int)).bind fun y156 => (bignat_shiftLeft.l0 k l0 a1 y156 0 (y156.length : Int) 0)) else (none)) else (none)) = some r := h;clear h;by_cases c4 : 0 ≤ a2
 ·rw [if_pos c4] at H;have c4b0 := eq_true c4;have c4b1 := decide_eq_true c4;clear c4;by_cases c5 : (a2 : Int).toNat ≤ 70368744177664
  ·rw [if_pos c5] at H;have c5b0 := eq_true c5;have c5b1 := decide_eq_true c5;clear c5;obtain ⟨y156, hy156⟩ : ∃ y_ : List Int, y_ = (List.replicate (a2 : Int).toNat 0) := ⟨_, rfl⟩;replace H : (bignat_shiftLeft.l0 k l0 a1 y156 0 (y156.length : Int) 0) = some r := zY hy156 H;have Ny156 := zA hy156;clear hy156;have H' := zA H;clear H;go_enter Tryd.func103, Tryd.ntmps103
   go_wp2_with (first | ((with_reducible refine gate_dst (N := 11) rfl ?_); refine Kd.R_make (Kd.int .u32) _ 37 rfl (N := 11) rfl 23 _ _ rfl a2 rfl rfl Tryd.underlying23 (.int .u32 0) 4 info37 rfl (by decide) (by omega) 0 (ok := fun _ => True) (okp := fun _ => True) rfl (fun _ hk => hk) trivial zD (Nat.le_trans (Nat.mul_le_mul_right _ (zD : a2.toNat ≤ 70368744177664)) (by omega)) (Below.refl _ _) (Nat.le_refl _) ?_; intro v157 w6 ho7 hb hg_ hnew_; clear hg_ hnew_; (first | rw [← Ny156.out] at ho7 | (simp only [Int.reduceToNat] at ho7; rw [← Ny156.out] at ho7)); have HO158 := zlo ho7 HB rfl; replace HB := zbb HB hb rfl; clear hb ho7; obtain ⟨Ao8, co8, eo8⟩ := Kd.R_slice HO158.out; subst eo8))
   go_loopg [8, 14] k (fun kq v8 v14 w' => ∃ (x7_1 : List Int) (x8_1 : Int) (x14_1 : Int), v8 = .int .u64 x8_1 ∧ v14 = .int .i64 x14_1 ∧ Aside0 (bignat_shiftLeft.l0 kq l0 a1 x7_1 x8_1 (y156.length : Int) x14_1 = some r) ∧ Aside0 (kq ≤ k) ∧ Aside0 (Kd.R (Kd.int .u32) 37 w' w.heap.size (fun _ => True) (.slice Ao8 y156.length co8) x7_1) ∧ Aside0 (Below w.heap.size w w'))
   case atStart => exact ⟨(y156), (0), (0), zS, zS, H', ⟨Nat.le_refl _⟩, ⟨zR HO158.out⟩, ⟨zH⟩⟩
   case round =>
    clear H';obtain ⟨x7_1, x8_1, x14_1, rfl, rfl, HA, HK1, HO_7, HB⟩ := hrel;have hl7_1 := (Kd.R_reads' HO_7.out).1;rw [hl7_1] at HO_7;(try simp only [hl7_1]);cases gk with
    | zero => exact absurd HA.out (by simp [bignat_shiftLeft.l0])
    | succ k1 =>
     have H := HA.out;clear HA;simp only [bignat_shiftLeft.l0] at H;by_cases c9 : x14_1 < (y156.length : Int)
     ·rw [if_pos c9] at H;have c9b0 := decide_eq_true c9;(try (have c9b0h := c9b0; simp only [hl7_1] at c9b0h));clear c9;by_cases c10 : x14_1 < (l0.length : Int)
      ·rw [if_pos c10] at H;have c10b0 := decide_eq_true c10;(try (have c10b0h := c10b0; simp only [hl7_1] at c10b0h));clear c10;by_cases c11 : 0 ≤ x14_1
       ·rw [if_pos c11] at H;have c11b0 := decide_eq_true c11;clear c11;by_cases c12 : 0 ≤ a1
        ·rw [if_pos c12] at H;have c12b0 := eq_true c12;have c12b1 := decide_eq_true c12;clear c12;obtain ⟨ji13, hji13⟩ : ∃ j_ : Int, (shl .u64 (IntKind.u64.wrap (rd l0 x14_1)) a1) = j_ := ⟨_, rfl⟩
         first | rw [hji13] at H | simp only [hji13] at H
         have hji13_ : (IntKind.u64.wrap ((IntKind.u64.wrap (rd l0 x14_1)) * 2 ^ min a1.toNat 64)) = ji13 := hji13;have hji13z : a1 ≤ 64 → (IntKind.u64.wrap ((IntKind.u64.wrap (rd l0 x14_1)) * 2 ^ a1.toNat)) = ji13 := shl_small hji13;by_cases c14 : x14_1 < (x7_1.length : Int)
         ·rw [if_pos c14] at H;have c14b0 := decide_eq_true c14;(try (have c14b0h := c14b0; simp only [hl7_1] at c14b0h));clear c14;obtain ⟨y160, hy160⟩ : ∃ y_ : List Int, y_ = (x7_1.set (x14_1 : Int).toNat ((Go.bits .or .u64 x8_1 (ji13)) % 4294967296)) := ⟨_, rfl⟩;replace H : (bignat_shiftLeft.l0 k1 l0 a1 y160 ((Go.bits .or .u64 x8_1 (ji13)) / 4294967296) (y156.length : Int) (wrap64 (x14_1 + 1))) = some r := zY hy160 H;have Ny160 := zA hy160;clear hy160;have H' := zA H;clear H;have p159 : 0 ≤ (x14_1 : Int) := zD;have q159 : x14_1 < (l0.length : Int) := zD;obtain ⟨ad159, e159, hx159_0⟩ := Kd.at_int HR0.out x14_1 p159 q159;cases e159;replace hx159_0 := (HB.out.cell (World.block_lt_of_cell? w _ hx159_0)).trans hx159_0;replace p159 := eq_true p159;replace q159 := eq_true q159;have p15 : 0 ≤ (x14_1 : Int) := zD;have q15 : (x14_1 : Int) < ((x7_1.length : Int) : Int) := zD;obtain ⟨go15, co15, eo15, gb15, gl15, cl15, HG15⟩ := Kd.R_form HO_7.out (by omega);(first | cases eo15 | (injection eo15 with ea_ en_ ec_; (first | subst ea_ | (injection ea_ with ea_; subst ea_)); subst ec_; clear en_));have GB15 := zA gb15;have GG15 := zA HG15;clear gb15 gl15 HG15;obtain ⟨hx15_0, hf15_0⟩ := Kd.R_celln 0 HO_7.out (x14_1 : Int) p15 q15;replace p15 := eq_true p15;replace q15 := eq_true q15;obtain ⟨hy16_, hz16_⟩ := Kd.R_celln 0 HO_7.out (x14_1 : Int) zD zD;have HP16 := Kd.R_putg HO_7.out (x14_1 : Int) ((Go.bits .or .u64 x8_1 (ji13)) % 4294967296)
          go_wp2_with (first | ((with_reducible refine gate_store (t := 37) (p := 34) rfl ?_); refine store_event (t := 37) (p := 34) (v := ?vo_w17) (w1 := (wr.setCell ⟨go15, (x14_1 : Int).toNat, none⟩ (.int .u32 ((Go.bits .or .u64 x8_1 (ji13)) % 4294967296)))) ?hg ?ho ?hn ?hr ?_; (case ho => rfl); (case hg => rfl); (case hn => rfl); (case hr => first | (go_simp; done) | (go_simp; rfl)); intro w17 hw; have hg : wr.grownBy w17 (some go15) := (by rw [hw]; exact HP16.2); have hp_ : Kd.R (Kd.int .u32) 37 w17 w.heap.size (fun _ => True) (.slice (some ⟨go15, 0, none⟩) x7_1.length co8) y160 := (by rw [hw, Ny160.out]; exact HP16.1); clear HP16; replace HO_7 := zA (hp_); replace HB := zA ((by rw [hw]; exact below_set (HB.out) GB15.out : Below w.heap.size w w17)); clear hg hw hp_))
          (try simp only [← hl7_1])
          go_roundg k1
          case measure => have := HK1.out; omega
          case rel => exact ⟨(y160), ((Go.bits .or .u64 x8_1 (ji13)) / 4294967296), (wrap64 (x14_1 + 1)), (by first | rfl | (simp; done) | (simp only [← hji13] <;> (first | rfl | simp)) | (simp [*]; done)), zS, H', ⟨by have := HK1.out; omega⟩, ⟨by (try simp only [hl7_1]); (with_reducible repeat (first | apply Kd.R_alloc | apply Kd.R_drewN | apply Kd.R_drew)); exact HO_7.out⟩, ⟨zH⟩⟩
         rw [if_neg c14] at H;cases H
        rw [if_neg c12] at H;cases H
       rw [if_neg c11] at H;cases H
      rw [if_neg c10] at H;have c10b0 := decide_eq_false c10;(try (have c10b0h := c10b0; simp only [hl7_1] at c10b0h));clear c10;by_cases c18 : 0 ≤ x14_1
      ·rw [if_pos c18] at H;have c18b0 := decide_eq_true c18;clear c18;by_cases c19 : x14_1 < (x7_1.length : Int)
       ·rw [if_pos c19] at H;have c19b0 := decide_eq_true c19;(try (have c19b0h := c19b0; simp only [hl7_1] at c19b0h));clear c19;obtain ⟨y161, hy161⟩ : ∃ y_ : List Int, y_ = (x7_1.set (x14_1 : Int).toNat ((x8_1) % 4294967296)) := ⟨_, rfl⟩;replace H : (bignat_shiftLeft.l0 k1 l0 a1 y161 (x8_1 / 4294967296) (y156.length : Int) (wrap64 (x14_1 + 1))) = some r := zY hy161 H;have Ny161 := zA hy161;clear hy161;have H' := zA H;clear H;have p20 : 0 ≤ (x14_1 : Int) := zD;have q20 : (x14_1 : Int) < ((x7_1.length : Int) : Int) := zD;obtain ⟨go20, co20, eo20, gb20, gl20, cl20, HG20⟩ := Kd.R_form HO_7.out (by omega);(first | cases eo20 | (injection eo20 with ea_ en_ ec_; (first | subst ea_ | (injection ea_ with ea_; subst ea_)); subst ec_; clear en_));have GB20 := zA gb20;have GG20 := zA HG20;clear gb20 gl20 HG20;obtain ⟨hx20_0, hf20_0⟩ := Kd.R_celln 0 HO_7.out (x14_1 : Int) p20 q20;replace p20 := eq_true p20;replace q20 := eq_true q20;obtain ⟨hy21_, hz21_⟩ := Kd.R_celln 0 HO_7.out (x14_1 : Int) zD zD;have HP21 := Kd.R_putg HO_7.out (x14_1 : Int) ((x8_1) % 4294967296)
        go_wp2_with (first | ((with_reducible refine gate_store (t := 37) (p := 34) rfl ?_); refine store_event (t := 37) (p := 34) (v := ?vo_w22) (w1 := (wr.setCell ⟨go20, (x14_1 : Int).toNat, none⟩ (.int .u32 ((x8_1) % 4294967296)))) ?hg ?ho ?hn ?hr ?_; (case ho => rfl); (case hg => rfl); (case hn => rfl); (case hr => first | (go_simp; done) | (go_simp; rfl)); intro w22 hw; have hg : wr.grownBy w22 (some go20) := (by rw [hw]; exact HP21.2); have hp_ : Kd.R (Kd.int .u32) 37 w22 w.heap.size (fun _ => True) (.slice (some ⟨go20, 0, none⟩) x7_1.length co8) y161 := (by rw [hw, Ny161.out]; exact HP21.1); clear HP21; replace HO_7 := zA (hp_); replace HB := zA ((by rw [hw]; exact below_set (HB.out) GB20.out : Below w.heap.size w w22)); clear hg hw hp_))
        (try simp only [← hl7_1])
        go_roundg k1
        case measure => have := HK1.out; omega
        case rel => exact ⟨(y161), (x8_1 / 4294967296), (wrap64 (x14_1 + 1)), zS, zS, H', ⟨by have := HK1.out; omega⟩, ⟨by (try simp only [hl7_1]); (with_reducible repeat (first | apply Kd.R_alloc | apply Kd.R_drewN | apply Kd.R_drew)); exact HO_7.out⟩, ⟨zH⟩⟩
       rw [if_neg c19] at H;cases H
      rw [if_neg c18] at H;cases H
     rw [if_neg c9] at H;have c9b0 := decide_eq_false c9;(try (have c9b0h := c9b0; simp only [hl7_1] at c9b0h));clear c9;obtain rfl := Option.some.inj H
     go_wp2
     go_ret
     exact ⟨_, zE, zR HO_7.out, zH⟩
  rw [if_neg c5] at H;cases H
 rw [if_neg c4] at H;cases H

def bignat_subtractScaled.l0 : Nat → List Int → Int → Int → List Int → Int → Int → Option (Bool × List Int)
 | 0, _, _, _, _, _, _ => none
 | k + 1, x0, x2, x7, x14, x15, x16 => if x16 < x15 then (if 0 ≤ x16 then (if x16 < (x14.length : Int) then (if x16 < (x0.length : Int) then (if (rd x0 x16) < ((IntKind.u64.wrap ((IntKind.u64.wrap (x2 * (IntKind.u64.wrap (rd x14 x16)))) + x7)) % 4294967296) then (bignat_subtractScaled.l0 k (x0.set (x16 : Int).toNat (((rd x0 x16) - ((IntKind.u64.wrap ((IntKind.u64.wrap (x2 * (IntKind.u64.wrap (rd x14 x16)))) + x7)) % 4294967296)) % 4294967296)) x2 (IntKind.u64.wrap (((IntKind.u64.wrap ((IntKind.u64.wrap (x2 * (IntKind.u64.wrap (rd x14 x16)))) + x7)) / 4294967296) + 1)) x14 x15 (wrap64 (x16 + 1))) else (bignat_subtractScaled.l0 k (x0.set (x16 : Int).toNat (((rd x0 x16) - ((IntKind.u64.wrap ((IntKind.u64.wrap (x2 * (IntKind.u64.wrap (rd x14 x16)))) + x7)) % 4294967296)) % 4294967296)) x2 ((IntKind.u64.wrap ((IntKind.u64.wrap (x2 * (IntKind.u64.wrap (rd x14 x16)))) + x7)) / 4294967296) x14 x15 (wrap64 (x16 + 1)))) else (none)) else (none)) else (none)) else (if 0 ≤ (wrap64 ((x0.length : Int) - 1)) then (if (wrap64 ((x0.length : Int) - 1)) < (x0.length : Int) then (some (decide ((IntKind.u64.wrap (rd x0 (wrap64 ((x0.length : Int) - 1)))) < x7), (x0.set ((wrap64 ((x0.length : Int) - 1)) : Int).toNat (((rd x0 (wrap64 ((x0.length : Int) - 1))) - ((x7) % 4294967296)) % 4294967296)))) else (none)) else (none))
def bignat_subtractScaled.f (k : Nat) (l0 : List Int) (l1 : List Int) (a2 : Int) : Option (Bool × List Int) := bignat_subtractScaled.l0 k l0 a2 0 l1 (l1.length : Int) 0
theorem bignat_subtractScaled.mono_l : ∀ k, (∀ y0 y1 y2 y3 y4 y5, LeO (bignat_subtractScaled.l0 k y0 y1 y2 y3 y4 y5) (bignat_subtractScaled.l0 (k + 1) y0 y1 y2 y3 y4 y5))
 | 0 => fun _ _ _ _ _ _ r h => by simp [bignat_subtractScaled.l0] at h
 | k + 1 => by
  have ih0 := bignat_subtractScaled.mono_l k
  intro y0 y1 y2 y3 y4 y5
  unfold bignat_subtractScaled.l0
  exact zm1 ih0
theorem bignat_subtractScaled.mono : ∀ a0 a1 a2 k, LeO (bignat_subtractScaled.f k a0 a1 a2) (bignat_subtractScaled.f (k + 1) a0 a1 a2) := by
 intro a0 a1 a2 k;have ih0 := bignat_subtractScaled.mono_l k;unfold bignat_subtractScaled.f;exact zm1 ih0

def bignat_addBack.l0 : Nat → List Int → Int → List Int → Int → Int → Option (List Int)
 | 0, _, _, _, _, _ => none
 | k + 1, x0, x4, x7, x8, x9 => if x9 < x8 then (if 0 ≤ x9 then (if x9 < (x7.length : Int) then (if x9 < (x0.length : Int) then (bignat_addBack.l0 k (x0.set (x9 : Int).toNat ((IntKind.u64.wrap (x4 + (IntKind.u64.wrap ((IntKind.u64.wrap (rd x0 x9)) + (IntKind.u64.wrap (rd x7 x9)))))) % 4294967296)) ((IntKind.u64.wrap (x4 + (IntKind.u64.wrap ((IntKind.u64.wrap (rd x0 x9)) + (IntKind.u64.wrap (rd x7 x9)))))) / 4294967296) x7 x8 (wrap64 (x9 + 1))) else (none)) else (none)) else (none)) else (if 0 ≤ (wrap64 ((x0.length : Int) - 1)) then (if (wrap64 ((x0.length : Int) - 1)) < (x0.length : Int) then (some (x0.set ((wrap64 ((x0.length : Int) - 1)) : Int).toNat (((rd x0 (wrap64 ((x0.length : Int) - 1))) + ((x4) % 4294967296)) % 4294967296))) else (none)) else (none))
def bignat_addBack.f (k : Nat) (l0 : List Int) (l1 : List Int) : Option (List Int) := bignat_addBack.l0 k l0 0 l1 (l1.length : Int) 0
theorem bignat_addBack.mono_l : ∀ k, (∀ y0 y1 y2 y3 y4, LeO (bignat_addBack.l0 k y0 y1 y2 y3 y4) (bignat_addBack.l0 (k + 1) y0 y1 y2 y3 y4))
 | 0 => fun _ _ _ _ _ r h => by simp [bignat_addBack.l0] at h
 | k + 1 => by
  have ih0 := bignat_addBack.mono_l k
  intro y0 y1 y2 y3 y4
  unfold bignat_addBack.l0
  exact zm1 ih0
theorem bignat_addBack.mono : ∀ a0 a1 k, LeO (bignat_addBack.f k a0 a1) (bignat_addBack.f (k + 1) a0 a1) := by
 intro a0 a1 k;have ih0 := bignat_addBack.mono_l k;unfold bignat_addBack.f;exact zm1 ih0

end Go.Proofs.YtoeldfopjalpkaaDoor.Q

