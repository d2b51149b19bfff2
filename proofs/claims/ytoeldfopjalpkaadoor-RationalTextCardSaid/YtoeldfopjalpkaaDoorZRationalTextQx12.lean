/- Lemmas for the proof of one law of this seat (Qx12). -/
import Derived.Test.YtoeldfopjalpkaaDoorZRationalTextQx11
namespace Go.Proofs.YtoeldfopjalpkaaDoor.Q
open Go.RowKit Go.Proofs.YtoeldfopjalpkaaDoorW.PrintWords Go.Proofs.YtoeldfopjalpkaaDoorW.PrintLast Go.Proofs.YtoeldfopjalpkaaDoorW.PrintMore
attribute [local go_sem] max2_int min2_int max_two min_two max_three min_three max_four min_four   -- for this text's walks alone
set_option linter.unusedVariables false
set_option linter.unusedSimpArgs false

mutual
def bignat_Parse.j0 : Nat → ByteArray → Bool → Option (List Int × Int)
 | 0, _, _ => none
 | k + 1, x0, x22 => if x22 = true then (some (([] : List Int), 2)) else (bignat_Parse.l0 k x0 ([] : List Int) 0)
def bignat_Parse.l0 : Nat → ByteArray → List Int → Int → Option (List Int × Int)
 | 0, _, _, _ => none
 | k + 1, x0, x4, x5 => if x5 < (x0.size : Int) then (if 0 ≤ x5 then (if (bt x0 x5) < 48 then (bignat_Parse.j2 k x0 x4 x5 true) else (bignat_Parse.j2 k x0 x4 x5 (decide ((bt x0 x5) > 57)))) else (none)) else (some (x4, 0))
def bignat_Parse.j2 : Nat → ByteArray → List Int → Int → Bool → Option (List Int × Int)
 | 0, _, _, _, _ => none
 | k + 1, x0, x4, x5, x38 => if x38 = true then (some (([] : List Int), 2)) else (if 0 ≤ x5 then (if x5 < (x0.size : Int) then (bignat_Parse.l1 k x0 x4 x5 (((bt x0 x5) - 48) % 256) (x4.length : Int) 0) else (none)) else (none))
def bignat_Parse.l1 : Nat → ByteArray → List Int → Int → Int → Int → Int → Option (List Int × Int)
 | 0, _, _, _, _, _, _ => none
 | k + 1, x0, x4, x5, x6, x45, x46 => if x46 < x45 then (if 0 ≤ x46 then (if x46 < (x4.length : Int) then (bignat_Parse.l1 k x0 (x4.set (x46 : Int).toNat ((IntKind.u64.wrap (x6 + (IntKind.u64.wrap (10 * (IntKind.u64.wrap (rd x4 x46)))))) % 4294967296)) x5 ((IntKind.u64.wrap (x6 + (IntKind.u64.wrap (10 * (IntKind.u64.wrap (rd x4 x46)))))) / 4294967296) x45 (wrap64 (x46 + 1))) else (none)) else (none)) else (if x6 > 0 then (if x4.length < 35184372088832 then (bignat_Parse.l0 k x0 (x4 ++ [(x6) % 4294967296]) (wrap64 (x5 + 1))) else (none)) else (bignat_Parse.l0 k x0 x4 (wrap64 (x5 + 1))))
end
def bignat_Parse.f (k : Nat) (a0 : ByteArray) : Option (List Int × Int) := if (a0.size : Int) > 4000 then (some (([] : List Int), 4)) else (if a0.toList = ([] : List UInt8) then (bignat_Parse.j0 k a0 true) else (if 0 < (a0.size : Int) then (if (bt a0 0) = 48 then (bignat_Parse.j0 k a0 (decide ((a0.size : Int) > 1))) else (bignat_Parse.j0 k a0 false)) else (none)))
theorem bignat_Parse.mono_l : ∀ k, (∀ y0 y1, LeO (bignat_Parse.j0 k y0 y1) (bignat_Parse.j0 (k + 1) y0 y1)) ∧ (∀ y0 y1 y2, LeO (bignat_Parse.l0 k y0 y1 y2) (bignat_Parse.l0 (k + 1) y0 y1 y2)) ∧ (∀ y0 y1 y2 y3, LeO (bignat_Parse.j2 k y0 y1 y2 y3) (bignat_Parse.j2 (k + 1) y0 y1 y2 y3)) ∧ (∀ y0 y1 y2 y3 y4 y5, LeO (bignat_Parse.l1 k y0 y1 y2 y3 y4 y5) (bignat_Parse.l1 (k + 1) y0 y1 y2 y3 y4 y5))
 | 0 => ⟨fun _ _ r h => by simp [bignat_Parse.j0] at h, fun _ _ _ r h => by simp [bignat_Parse.l0] at h, fun _ _ _ _ r h => by simp [bignat_Parse.j2] at h, fun _ _ _ _ _ _ r h => by simp [bignat_Parse.l1] at h⟩
 | k + 1 => by
  obtain ⟨ih0, ih1, ih2, ih3⟩ := bignat_Parse.mono_l k
  refine ⟨?_, ?_, ?_, ?_⟩
  ·intro y0 y1
   unfold bignat_Parse.j0
   exact zm4 ih0 ih1 ih2 ih3
  ·intro y0 y1 y2
   unfold bignat_Parse.l0
   exact zm4 ih0 ih1 ih2 ih3
  ·intro y0 y1 y2 y3
   unfold bignat_Parse.j2
   exact zm4 ih0 ih1 ih2 ih3
  intro y0 y1 y2 y3 y4 y5
  unfold bignat_Parse.l1
  exact zm4 ih0 ih1 ih2 ih3
theorem bignat_Parse.mono : ∀ a0 k, LeO (bignat_Parse.f k a0) (bignat_Parse.f (k + 1) a0) := by
 intro a0 k;obtain ⟨ih0, ih1, ih2, ih3⟩ := bignat_Parse.mono_l k;unfold bignat_Parse.f;exact zm4 ih0 ih1 ih2 ih3
set_option maxHeartbeats 8000000 in
set_option maxRecDepth 100000 in
theorem bignat_Parse.calls (k : Nat) (a0 : ByteArray) (r1 : List Int) (r2 : Int) (w : World) (h : bignat_Parse.f k a0 = some (r1, r2)) :
 Calls Tryd.prog 85 #[.string a0] w fun e w' => ∃ v0_ : Value, e = .returned (.tuple #[v0_, .int .i64 r2]) ∧ Kd.R (Kd.int .u32) 37 w' w.heap.size (fun _ => True) v0_ r1 ∧ Below w.heap.size w w' := by
 have HB := zA (Below.refl w.heap.size w);have H : (if (a0.size : Int) > 4000 then (some (([] : List Int), 4)) else (if a0.toList = ([] : List UInt8) then (bignat_Parse.j0 k a0 true) else (if 0 < (a0.size : Int) then (if (bt a0 0) = 48 then (bignat_Parse.j0 k a0 (decide ((a0.size : Int) > 1))) else (bignat_Parse.j0 k a0 false)) else (none)))) = some (r1, r2) := h;clear h;by_cases c2 : (a0.size : Int) > 4000
 ·rw [if_pos c2] at H;have c2b0 : decide (4000 < (a0.size : Int)) = true := decide_eq_true c2;have c2b1 : decide (4000 < a0.size) = true := decide_eq_true (by omega);clear c2;simp only [Option.some.injEq, Prod.mk.injEq] at H;obtain ⟨rfl, rfl⟩ := H;go_enter Tryd.func85, Tryd.ntmps85
  go_wp2
  go_ret2
  exact ⟨_, zE, by first | exact Kd.R_nil _ _ _ _ _ | exact Kd.V_nil _ _ _ _ _, zH⟩
 rw [if_neg c2] at H;have c2b0 : decide (4000 < (a0.size : Int)) = false := decide_eq_false c2;have c2b1 : decide (4000 < a0.size) = false := decide_eq_false (by omega);clear c2;have HC3 := zA H;clear H;go_enter Tryd.func85, Tryd.ntmps85
 go_upto_region 3 with (fail)
 go_cut [22] (fun v22 wc => ∃ (kq : Nat) (x22_2 : Bool), v22 = .bool x22_2 ∧ Aside0 (bignat_Parse.j0 kq a0 x22_2 = some (r1, r2)) ∧ Aside0 (kq ≤ k) ∧ Aside0 (Below w.heap.size w wc))
 case first =>
  have H := HC3.out;clear HC3;by_cases c4 : a0.toList = ([] : List UInt8)
  ·rw [if_pos c4] at H;have c4b0 := beq_iff_eq.mpr c4;have c4b1 := bne_eq_false_iff_eq.mpr c4;clear c4;(first | rw [c4b0] | rw [c4b1] | (simp only [i64_w, i32_w]; rw [c4b0]) | skip);have H' := zA H;clear H
   go_wp2
   go_meet
   case rel => exact ⟨_, (true), zS, H', ⟨by first | omega | exact Nat.le_refl _⟩, ⟨zH⟩⟩
  rw [if_neg c4] at H;have c4b0 := beq_eq_false_iff_ne.mpr c4;have c4b1 := bne_iff_ne.mpr c4;(first | rw [c4b0] | rw [c4b1] | (simp only [i64_w, i32_w]; rw [c4b0]) | skip);by_cases c5 : 0 < (a0.size : Int)
  ·rw [if_pos c5] at H;have c5b0 := decide_eq_true c5;have c5b1 : decide (0 < a0.size) = true := decide_eq_true (by omega);clear c5;by_cases c7 : (bt a0 0) = 48
   ·rw [if_pos c7] at H;have c7b0 := beq_iff_eq.mpr c7;have c7b1 := bne_eq_false_iff_eq.mpr c7;clear c7;have H' := zA H;clear H;have p6 : 0 ≤ (0 : Int) := (by omega);have q6 : 0 < a0.size := (by have : (0 : Int) < (a0.size : Int) := zD; omega);have hx6 : ∀ h : 0 < a0.size, ((a0[0]'h).toNat : Int) = bt a0 0 := bt_at a0 0;clear p6;have qi6 : (0 < (a0.size : Int)) = True := eq_true zD;replace q6 := eq_true q6
    go_wp2
    go_meet
    case rel => exact ⟨_, (decide ((a0.size : Int) > 1)), zS, H', ⟨by first | omega | exact Nat.le_refl _⟩, ⟨zH⟩⟩
   rw [if_neg c7] at H;have c7b0 := beq_eq_false_iff_ne.mpr c7;have c7b1 := bne_iff_ne.mpr c7;have H' := zA H;clear H;have p6 : 0 ≤ (0 : Int) := (by omega);have q6 : 0 < a0.size := (by have : (0 : Int) < (a0.size : Int) := zD; omega);have hx6 : ∀ h : 0 < a0.size, ((a0[0]'h).toNat : Int) = bt a0 0 := bt_at a0 0;clear p6;have qi6 : (0 < (a0.size : Int)) = True := eq_true zD;replace q6 := eq_true q6
   go_wp2
   go_meet
   case rel => exact ⟨_, (false), zS, H', ⟨by first | omega | exact Nat.le_refl _⟩, ⟨zH⟩⟩
  rw [if_neg c5] at H;cases H
 case rest =>
  clear HC3
  try clear hx6
  try clear qi6
  obtain ⟨kq, x22_2, rfl, HA, HJ2, HB⟩ := hcut;cases kq with
  | zero => exact absurd HA.out (by simp [bignat_Parse.j0])
  | succ kj2 =>
   have H := HA.out;clear HA;simp only [bignat_Parse.j0] at H;by_cases c8 : x22_2 = true
   ·subst c8;have H1 : (some (([] : List Int), 2)) = some (r1, r2) := by rw [if_pos rfl] at H; exact H
    clear H;have H := H1;clear H1;simp only [Option.some.injEq, Prod.mk.injEq] at H;obtain ⟨rfl, rfl⟩ := H
    go_wp2
    go_ret2
    exact ⟨_, zE, by first | exact Kd.R_nil _ _ _ _ _ | exact Kd.V_nil _ _ _ _ _, zH⟩
   replace c8 := Bool.eq_false_iff.mpr c8;subst c8;have H1 : (bignat_Parse.l0 kj2 a0 ([] : List Int) 0) = some (r1, r2) := by rw [if_neg (show ¬ (false = true) by decide)] at H; exact H
   clear H;have H := H1;clear H1;have H' := zA H;clear H
   go_wp2
   go_loopg [4, 5] kj2 (fun kq v4 v5 w' => ∃ (x4_2 : List Int) (x5_2 : Int), v5 = .int .i64 x5_2 ∧ Aside0 (bignat_Parse.l0 kq a0 x4_2 x5_2 = some (r1, r2)) ∧ Aside0 (kq ≤ kj2) ∧ Aside0 (Kd.R (Kd.int .u32) 37 w' w.heap.size (fun _ => True) v4 x4_2) ∧ Aside0 (Below w.heap.size w w'))
   case atStart => exact ⟨(([] : List Int)), (0), zS, H', ⟨Nat.le_refl _⟩, ⟨by first | exact Kd.R_nil _ _ _ _ _ | exact Kd.V_nil _ _ _ _ _⟩, ⟨zH⟩⟩
   case round =>
    clear H'
    try clear hx6
    try clear qi6
    obtain ⟨x4_2, x5_2, rfl, HA, HK2, HO_4, HB⟩ := hrel;cases gk with
    | zero => exact absurd HA.out (by simp [bignat_Parse.l0])
    | succ k2 =>
     have H := HA.out;clear HA;simp only [bignat_Parse.l0] at H;by_cases c9 : x5_2 < (a0.size : Int)
     ·rw [if_pos c9] at H;have c9b0 := decide_eq_true c9;clear c9;have HC10 := zA H;clear H
      go_upto_region 9 with (fail)
      go_cut [38] (fun v38 wc => ∃ (kq : Nat) (x38_9 : Bool), v38 = .bool x38_9 ∧ Aside0 (bignat_Parse.j2 kq a0 x4_2 x5_2 x38_9 = some (r1, r2)) ∧ Aside0 (kq ≤ k2) ∧ Aside0 (Kd.R (Kd.int .u32) 37 wc w.heap.size (fun _ => True) u4 x4_2) ∧ Aside0 (Below w.heap.size w wc))
      case first =>
       have H := HC10.out;clear HC10;by_cases c11 : 0 ≤ x5_2
       ·rw [if_pos c11] at H;have c11b0 := decide_eq_true c11;clear c11;(first | rw [c11b0] | rw [c11b1] | (simp only [i64_w, i32_w]; rw [c11b0]) | skip);by_cases c13 : (bt a0 x5_2) < 48
        ·rw [if_pos c13] at H;have c13b0 := decide_eq_true c13;clear c13;have H' := zA H;clear H;have p12 : 0 ≤ (x5_2 : Int) := zD;have q12 : x5_2 < (a0.size : Int) := zD;have hx12 := bt_at a0 x5_2;replace p12 := eq_true p12;replace q12 := eq_true q12
         go_wp2
         go_meet
         case rel => exact ⟨_, (true), zS, H', ⟨by have := HJ2.out; have := HK2.out; first | omega | exact Nat.le_refl _⟩, ⟨zR HO_4.out⟩, ⟨zH⟩⟩
        rw [if_neg c13] at H;have c13b0 := decide_eq_false c13;clear c13;have H' := zA H;clear H;have p12 : 0 ≤ (x5_2 : Int) := zD;have q12 : x5_2 < (a0.size : Int) := zD;have hx12 := bt_at a0 x5_2;replace p12 := eq_true p12;replace q12 := eq_true q12;have p14 : 0 ≤ (x5_2 : Int) := zD;have q14 : x5_2 < (a0.size : Int) := zD;have hx14 := bt_at a0 x5_2;replace p14 := eq_true p14;replace q14 := eq_true q14
        go_wp2
        go_meet
        case rel => exact ⟨_, (decide ((bt a0 x5_2) > 57)), zS, H', ⟨by have := HJ2.out; have := HK2.out; first | omega | exact Nat.le_refl _⟩, ⟨zR HO_4.out⟩, ⟨zH⟩⟩
       rw [if_neg c11] at H;cases H
      case rest =>
       clear HC10
       try clear hx1
       try clear hx6
       try clear qi6
       try clear hx12
       try clear hx14
       obtain ⟨kq, x38_9, rfl, HA, HJ9, HO_4, HB⟩ := hcut;cases kq with
       | zero => exact absurd HA.out (by simp [bignat_Parse.j2])
       | succ kj9 =>
        have H := HA.out;clear HA;simp only [bignat_Parse.j2] at H;by_cases c15 : x38_9 = true
        ·subst c15;have H1 : (some (([] : List Int), 2)) = some (r1, r2) := by rw [if_pos rfl] at H; exact H
         clear H;have H := H1;clear H1;simp only [Option.some.injEq, Prod.mk.injEq] at H;obtain ⟨rfl, rfl⟩ := H
         go_wp2
         go_ret2
         exact ⟨_, zE, by first | exact Kd.R_nil _ _ _ _ _ | exact Kd.V_nil _ _ _ _ _, zH⟩
        replace c15 := Bool.eq_false_iff.mpr c15;subst c15;have H1 : (if 0 ≤ x5_2 then (if x5_2 < (a0.size : Int) then (bignat_Parse.l1 kj9 a0 x4_2 x5_2 (((bt a0 x5_2) - 48) % 256) (x4_2.length : Int) 0) else (none)) else (none)) = some (r1, r2) := by rw [if_neg (show ¬ (false = true) by decide)] at H; exact H
        clear H;have H := H1;clear H1;by_cases c16 : 0 ≤ x5_2
        ·rw [if_pos c16] at H;have c16b0 := decide_eq_true c16;clear c16;by_cases c17 : x5_2 < (a0.size : Int)
         ·rw [if_pos c17] at H;have c17b0 := decide_eq_true c17;clear c17;have H' := zA H;clear H;have p18 : 0 ≤ (x5_2 : Int) := zD;have q18 : x5_2 < (a0.size : Int) := zD;have hx18 := bt_at a0 x5_2;replace p18 := eq_true p18;replace q18 := eq_true q18;obtain ⟨Ao19, co19, eo19⟩ := Kd.R_slice HO_4.out;subst eo19
          go_wp2
          go_loopg [6, 46] kj9 (fun kq v6 v46 w' => ∃ (x4_4 : List Int) (x6_4 : Int) (x46_4 : Int), v6 = .int .u64 x6_4 ∧ v46 = .int .i64 x46_4 ∧ Aside0 (bignat_Parse.l1 kq a0 x4_4 x5_2 x6_4 (x4_2.length : Int) x46_4 = some (r1, r2)) ∧ Aside0 (kq ≤ kj9) ∧ Aside0 (Kd.R (Kd.int .u32) 37 w' w.heap.size (fun _ => True) (.slice Ao19 x4_2.length co19) x4_4) ∧ Aside0 (Below w.heap.size w w'))
          case atStart => exact ⟨(x4_2), (((bt a0 x5_2) - 48) % 256), (0), zS, zS, H', ⟨Nat.le_refl _⟩, ⟨zR HO_4.out⟩, ⟨zH⟩⟩
          case round =>
           clear H'
           try clear hx1
           try clear hx6
           try clear qi6
           try clear hx12
           try clear hx14
           try clear hx18
           obtain ⟨x4_4, x6_4, x46_4, rfl, rfl, HA, HK4, HO_4, HB⟩ := hrel;have hl4_4 := (Kd.R_reads' HO_4.out).1;rw [hl4_4] at HO_4;(try simp only [hl4_4]);cases gk with
           | zero => exact absurd HA.out (by simp [bignat_Parse.l1])
           | succ k4 =>
            have H := HA.out;clear HA;simp only [bignat_Parse.l1] at H;by_cases c20 : x46_4 < (x4_2.length : Int)
            ·rw [if_pos c20] at H;have c20b0 := decide_eq_true c20;(try (have c20b0h := c20b0; simp only [hl4_4] at c20b0h));clear c20;by_cases c21 : 0 ≤ x46_4
             ·rw [if_pos c21] at H;have c21b0 := decide_eq_true c21;clear c21;by_cases c22 : x46_4 < (x4_4.length : Int)
              ·rw [if_pos c22] at H;have c22b0 := decide_eq_true c22;(try (have c22b0h := c22b0; simp only [hl4_4] at c22b0h));clear c22;obtain ⟨y515, hy515⟩ : ∃ y_ : List Int, y_ = (x4_4.set (x46_4 : Int).toNat ((IntKind.u64.wrap (x6_4 + (IntKind.u64.wrap (10 * (IntKind.u64.wrap (rd x4_4 x46_4)))))) % 4294967296)) := ⟨_, rfl⟩;replace H : (bignat_Parse.l1 k4 a0 y515 x5_2 ((IntKind.u64.wrap (x6_4 + (IntKind.u64.wrap (10 * (IntKind.u64.wrap (rd x4_4 x46_4)))))) / 4294967296) (x4_2.length : Int) (wrap64 (x46_4 + 1))) = some (r1, r2) := zY hy515 H;have Ny515 := zA hy515;clear hy515;have H' := zA H;clear H;have p514 : 0 ≤ (x46_4 : Int) := zD;have q514 : x46_4 < (x4_4.length : Int) := zD;obtain ⟨ad514, e514, hx514_0⟩ := Kd.at_int (Kd.R_reads' HO_4.out).2.2 x46_4 p514 q514;cases e514;replace p514 := eq_true p514;replace q514 := eq_true q514;have p23 : 0 ≤ (x46_4 : Int) := zD;have q23 : (x46_4 : Int) < ((x4_4.length : Int) : Int) := zD;obtain ⟨go23, co23, eo23, gb23, gl23, cl23, HG23⟩ := Kd.R_form HO_4.out (by omega);(first | cases eo23 | (injection eo23 with ea_ en_ ec_; (first | subst ea_ | (injection ea_ with ea_; subst ea_)); subst ec_; clear en_));have GB23 := zA gb23;have GG23 := zA HG23;clear gb23 gl23 HG23;(first | simp only [add_plain] at hx514_0 | skip);obtain ⟨hx23_0, hf23_0⟩ := Kd.R_celln 0 HO_4.out (x46_4 : Int) p23 q23;replace p23 := eq_true p23;replace q23 := eq_true q23;obtain ⟨hy24_, hz24_⟩ := Kd.R_celln 0 HO_4.out (x46_4 : Int) zD zD;have HP24 := Kd.R_putg HO_4.out (x46_4 : Int) ((IntKind.u64.wrap (x6_4 + (IntKind.u64.wrap (10 * (IntKind.u64.wrap (rd x4_4 x46_4)))))) % 4294967296)
               go_wp2_with (first | ((with_reducible refine gate_store (t := 37) (p := 61) rfl ?_); refine store_event (t := 37) (p := 61) (v := ?vo_w25) (w1 := (wr.setCell ⟨go23, (x46_4 : Int).toNat, none⟩ (.int .u32 ((IntKind.u64.wrap (x6_4 + (IntKind.u64.wrap (10 * (IntKind.u64.wrap (rd x4_4 x46_4)))))) % 4294967296)))) ?hg ?ho ?hn ?hr ?_; (case ho => rfl); (case hg => rfl); (case hn => rfl); (case hr => first | (go_simp; done) | (go_simp; rfl)); intro w25 hw; have hg : wr.grownBy w25 (some go23) := (by rw [hw]; exact HP24.2); have hp_ : Kd.R (Kd.int .u32) 37 w25 w.heap.size (fun _ => True) (.slice (some ⟨go23, 0, none⟩) x4_4.length co19) y515 := (by rw [hw, Ny515.out]; exact HP24.1); clear HP24; replace HO_4 := zA (hp_); replace HB := zA ((by rw [hw]; exact below_set (HB.out) GB23.out : Below w.heap.size w w25)); clear hg hw hp_))
               (try simp only [← hl4_4])
               go_roundg k4
               case measure => have := HJ2.out; have := HK2.out; have := HJ9.out; have := HK4.out; omega
               case rel => exact ⟨(y515), ((IntKind.u64.wrap (x6_4 + (IntKind.u64.wrap (10 * (IntKind.u64.wrap (rd x4_4 x46_4)))))) / 4294967296), (wrap64 (x46_4 + 1)), zS, zS, H', ⟨by have := HJ2.out; have := HK2.out; have := HJ9.out; have := HK4.out; omega⟩, ⟨by (try simp only [hl4_4]); (with_reducible repeat (first | apply Kd.R_alloc | apply Kd.R_drewN | apply Kd.R_drew)); exact HO_4.out⟩, ⟨zH⟩⟩
              rw [if_neg c22] at H;cases H
             rw [if_neg c21] at H;cases H
            rw [if_neg c20] at H;have c20b0 := decide_eq_false c20;(try (have c20b0h := c20b0; simp only [hl4_4] at c20b0h));clear c20;by_cases c26 : x6_4 > 0
            ·rw [if_pos c26] at H;have c26b0 : decide (0 < x6_4) = true := decide_eq_true c26;clear c26;by_cases c27 : x4_4.length < 35184372088832
             ·rw [if_pos c27] at H;have LMc27 := zA c27;clear c27;obtain ⟨y516, hy516⟩ : ∃ y_ : List Int, y_ = (x4_4 ++ [(x6_4) % 4294967296]) := ⟨_, rfl⟩;replace H : (bignat_Parse.l0 k4 a0 y516 (wrap64 (x5_2 + 1))) = some (r1, r2) := zY hy516 H;have Ny516 := zA hy516;clear hy516;have H' := zA H;clear H
              go_wp2_with (first | ((with_reducible refine gate_builtin (b := .append) (xs := #[.tmp 67, .tmp 70]) rfl ?_); (try (refine gate_guard (by rfl) ?_; dsimp only)); at_builtin; refine Kd.R_append (Kd.int .u32) (w0 := w) w.heap.size rfl (.tmp 67) (.tmp 70) 23 37 (.int .u32 0) 4 rfl Tryd.underlying23 info37 rfl (by decide) (by omega) (.slice Ao19 x4_4.length co19) x4_4 ((x6_4) % 4294967296) [.int .u32 ((x6_4) % 4294967296)] (fun _ => True) (fun _ => False) rfl rfl ?aP (fun _ hk => hk.elim) ?aF ?aO ?aB ?aS ?aL ?_; (case aP => exact rfl); (case aB => exact zH); (case aF => exact (fun _ _ => trivial)); (case aO => exact (zR HO_4.out)); (case aS => exact (below_size zH)); (case aL => have := LMc27.out; omega); intro v517 w28 ho hb hg hat; rw [← Ny516.out] at ho; replace HB := zA (hb); have HO518 := zA (ho); clear HO_4; clear ho hb hg hat))
              (try simp only [← hl4_4])
              go_roundg k4
              case measure => have := HJ2.out; have := HK2.out; have := HJ9.out; have := HK4.out; omega
              case rel => exact ⟨(y516), (wrap64 (x5_2 + 1)), zS, H', ⟨by have := HJ2.out; have := HK2.out; have := HJ9.out; have := HK4.out; omega⟩, ⟨by (try simp only [hl4_4]); (with_reducible repeat (first | apply Kd.R_alloc | apply Kd.R_drewN | apply Kd.R_drew)); exact HO518.out⟩, ⟨zH⟩⟩
             rw [if_neg c27] at H;cases H
            rw [if_neg c26] at H;have c26b0 : decide (0 < x6_4) = false := decide_eq_false c26;clear c26;have H' := zA H;clear H
            go_wp2
            (try simp only [← hl4_4])
            go_roundg k4
            case measure => have := HJ2.out; have := HK2.out; have := HJ9.out; have := HK4.out; omega
            case rel => exact ⟨(x4_4), (wrap64 (x5_2 + 1)), zS, H', ⟨by have := HJ2.out; have := HK2.out; have := HJ9.out; have := HK4.out; omega⟩, ⟨by (try simp only [hl4_4]); (with_reducible repeat (first | apply Kd.R_alloc | apply Kd.R_drewN | apply Kd.R_drew)); exact HO_4.out⟩, ⟨zH⟩⟩
         rw [if_neg c17] at H;cases H
        rw [if_neg c16] at H;cases H
     rw [if_neg c9] at H;have c9b0 := decide_eq_false c9;clear c9;simp only [Option.some.injEq, Prod.mk.injEq] at H;obtain ⟨rfl, rfl⟩ := H
     go_wp2
     go_ret2
     exact ⟨_, zE, zR HO_4.out, zH⟩

def rational_number.f (k : Nat) (a0 : ByteArray) : Option (List Int) := (strings_TrimLeft.f k a0 (⟨#[48]⟩ : ByteArray)).bind fun t519 => (if t519.toList = ([] : List UInt8) then (some ([] : List Int)) else ((bignat_Parse.f k t519).bind fun bt520 => (some bt520.1)))
theorem rational_number.mono : ∀ a0 k, LeO (rational_number.f k a0) (rational_number.f (k + 1) a0) := by
 intro a0 k;unfold rational_number.f;exact zm2 bignat_Parse.mono strings_TrimLeft.mono
set_option maxHeartbeats 8000000 in
set_option maxRecDepth 100000 in
theorem rational_number.calls (k : Nat) (a0 : ByteArray) (r : List Int) (w : World) (h : rational_number.f k a0 = some r) :
 Calls Tryd.prog 55 #[.string a0] w fun e w' => ∃ v0_ : Value, e = .returned (v0_) ∧ Kd.R (Kd.int .u32) 37 w' w.heap.size (fun _ => True) v0_ r ∧ Below w.heap.size w w' := by
 have HB := zA (Below.refl w.heap.size w);have H : ((strings_TrimLeft.f k a0 (⟨#[48]⟩ : ByteArray)).bind fun t519 => (if t519.toList = ([] : List UInt8) then (some ([] : List Int)) else ((bignat_Parse.f k t519).bind fun bt520 => (some bt520.1)))) = some r := h;clear h;obtain ⟨t519, A20, H⟩ := zi H;have A2 := zA A20;clear A20;by_cases c3 : t519.toList = ([] : List UInt8)
 ·rw [if_pos c3] at H;have c3b0 := beq_iff_eq.mpr c3;have c3b1 := bne_eq_false_iff_eq.mpr c3;clear c3;obtain rfl := Option.some.inj H;go_enter Tryd.func55, Tryd.ntmps55
  go_wp2_with (first | ((with_reducible refine gate_callee (f := 84) rfl ?_); refine goesL_ (some 6) rfl rfl Tryd.func84 zk rfl #[.string a0, .string (⟨#[48]⟩ : ByteArray)] rfl (by (try simp only [List.map_toArray, List.map_cons, List.map_nil]); first | done | rfl | (simp only [List.length_drop, List.length_take]; rfl) | (go_simp; done) | (go_simp; rfl) | (go_simp; (try simp only [IntKind.wrap_u8, IntKind.wrap_u32, IntKind.wrap_u64]); omega)) ?_; (with_reducible refine (strings_TrimLeft.calls k a0 (⟨#[48]⟩ : ByteArray) t519 _ A2.out).mono ?_); rintro e w' ⟨rfl, ⟨nd, rfl⟩⟩; refine ⟨_, rfl, ?_⟩))
  go_ret
  exact ⟨_, zE, by first | exact Kd.R_nil _ _ _ _ _ | exact Kd.N_nil _ _ _ _ _ | exact Kd.V_nil _ _ _ _ _ | exact Kd.Q_nil _ _ _ _ _ | exact Kd.S_nil _ _ _ _ _, zH⟩
 rw [if_neg c3] at H;have c3b0 := beq_eq_false_iff_ne.mpr c3;have c3b1 := bne_iff_ne.mpr c3;obtain ⟨⟨t520, t521⟩, A40, H⟩ := zi H;dsimp only at H;have A4 := zA A40;clear A40;obtain rfl := Option.some.inj H;go_enter Tryd.func55, Tryd.ntmps55
 go_wp2_with (first | ((with_reducible refine gate_callee (f := 84) rfl ?_); refine goesL_ (some 6) rfl rfl Tryd.func84 zk rfl #[.string a0, .string (⟨#[48]⟩ : ByteArray)] rfl (by (try simp only [List.map_toArray, List.map_cons, List.map_nil]); first | done | rfl | (simp only [List.length_drop, List.length_take]; rfl) | (go_simp; done) | (go_simp; rfl) | (go_simp; (try simp only [IntKind.wrap_u8, IntKind.wrap_u32, IntKind.wrap_u64]); omega)) ?_; (with_reducible refine (strings_TrimLeft.calls k a0 (⟨#[48]⟩ : ByteArray) t519 _ A2.out).mono ?_); rintro e w' ⟨rfl, ⟨nd, rfl⟩⟩; refine ⟨_, rfl, ?_⟩) | ((with_reducible refine gate_callee (f := 85) rfl ?_); refine goesL_ (some 11) rfl rfl Tryd.func85 zk rfl #[.string t519] rfl (by (try simp only [List.map_toArray, List.map_cons, List.map_nil]); first | done | rfl | (simp only [List.length_drop, List.length_take]; rfl) | (go_simp; done) | (go_simp; rfl) | (go_simp; (try simp only [IntKind.wrap_u8, IntKind.wrap_u32, IntKind.wrap_u64]); omega)) ?_; (with_reducible refine (bignat_Parse.calls k t519 t520 t521 _ A4.out).mono ?_); rintro e w5 ⟨v522, rfl, ho0, hb⟩; refine ⟨_, rfl, ?_⟩; have HO523 := zA (Kd.R_lower ho0 (below_size zH)); replace HB := zA (below_step zH hb); (try clear hb); (try clear hb2); (try clear hk); (try clear hi); (try clear ho0)))
 go_ret
 exact ⟨_, zE, zR HO523.out, zH⟩

end Go.Proofs.YtoeldfopjalpkaaDoor.Q

