/- Lemmas for the proof of one law of this seat (Qx10). -/
import Derived.Test.YtoeldfopjalpkaaDoorZRationalTextQx9
namespace Go.Proofs.YtoeldfopjalpkaaDoor.Q
open Go.RowKit Go.Proofs.YtoeldfopjalpkaaDoorW.PrintWords Go.Proofs.YtoeldfopjalpkaaDoorW.PrintLast Go.Proofs.YtoeldfopjalpkaaDoorW.PrintMore
attribute [local go_sem] max2_int min2_int max_two min_two max_three min_three max_four min_four   -- for this text's walks alone
set_option linter.unusedVariables false
set_option linter.unusedSimpArgs false

def stringslite_Cut.f (a0 : ByteArray) (a1 : ByteArray) : Option (ByteArray × ByteArray × Bool) := (stringslite_Index.f a0 a1).bind fun t510 => (if t510 ≥ 0 then (if 0 ≤ t510 then (if t510 ≤ (a0.size : Int) then (if 0 ≤ (wrap64 (t510 + (a1.size : Int))) then (if (wrap64 (t510 + (a1.size : Int))) ≤ (a0.size : Int) then (some (a0.extract 0 (t510 : Int).toNat, a0.extract ((wrap64 (t510 + (a1.size : Int))) : Int).toNat a0.size, true)) else (none)) else (none)) else (none)) else (none)) else (some (a0, (⟨#[]⟩ : ByteArray), false)))
set_option maxHeartbeats 8000000 in
set_option maxRecDepth 100000 in
theorem stringslite_Cut.calls (a0 : ByteArray) (a1 : ByteArray) (r1 : ByteArray) (r2 : ByteArray) (r3 : Bool) (w : World) (h : stringslite_Cut.f a0 a1 = some (r1, r2, r3)) :
 Calls Tryd.prog 83 #[.string a0, .string a1] w fun e w' => e = .returned (.tuple #[.string r1, .string r2, .bool r3]) ∧ Drawn0 w w' := by
 have H : ((stringslite_Index.f a0 a1).bind fun t510 => (if t510 ≥ 0 then (if 0 ≤ t510 then (if t510 ≤ (a0.size : Int) then (if 0 ≤ (wrap64 (t510 + (a1.size : Int))) then (if (wrap64 (t510 + (a1.size : Int))) ≤ (a0.size : Int) then (some (a0.extract 0 (t510 : Int).toNat, a0.extract ((wrap64 (t510 + (a1.size : Int))) : Int).toNat a0.size, true)) else (none)) else (none)) else (none)) else (none)) else (some (a0, (⟨#[]⟩ : ByteArray), false)))) = some (r1, r2, r3) := h;clear h;obtain ⟨t510, A30, H⟩ := zi H;have A3 := zA A30;clear A30;by_cases c4 : t510 ≥ 0
 ·rw [if_pos c4] at H;have c4b0 : decide (0 ≤ t510) = true := decide_eq_true c4;clear c4;by_cases c5 : 0 ≤ t510
  ·rw [if_pos c5] at H;have c5b0 := eq_true c5;have c5b1 := decide_eq_true c5;clear c5;by_cases c6 : t510 ≤ (a0.size : Int)
   ·rw [if_pos c6] at H;have c6b0 := eq_true c6;have c6b1 := decide_eq_true c6;clear c6;obtain ⟨ji7, hji7⟩ : ∃ j_ : Int, (wrap64 (t510 + (a1.size : Int))) = j_ := ⟨_, rfl⟩
    first | rw [hji7] at H | simp only [hji7] at H
    (try rw [hji7] at A3);have hji7w : (IntKind.i64.wrap (t510 + (a1.size : Int))) = ji7 := (i64_w _).trans hji7;by_cases c8 : 0 ≤ (ji7)
    ·rw [if_pos c8] at H;have c8b0 := eq_true c8;have c8b1 := decide_eq_true c8;clear c8;by_cases c9 : (ji7) ≤ (a0.size : Int)
     ·rw [if_pos c9] at H;have c9b0 := eq_true c9;have c9b1 := decide_eq_true c9;clear c9;simp only [Option.some.injEq, Prod.mk.injEq] at H;obtain ⟨rfl, rfl, rfl⟩ := H;go_enter Tryd.func83, Tryd.ntmps83
      go_wp2_with (first | (go_at_call 95; (with_reducible refine (stringslite_Index.calls a0 a1 t510 _ A3.out).mono ?_); rintro e w' ⟨rfl, ⟨nd, rfl⟩⟩; (try first | exact ⟨rfl, _, World.drewN_drewN _ _ _⟩ | exact ⟨rfl, _, Eq.trans (World.drewN_drewN _ _ _) (congrArg (World.drewN _) (Nat.add_assoc _ _ _))⟩)))
      repeat (go_quiet (fail); try go_wp2)
      go_ret3
      exact ⟨by first | rfl | (simp; done) | (simp only [← hji7] <;> (first | rfl | simp)) | (simp [*]; done), zW⟩
     rw [if_neg c9] at H;cases H
    rw [if_neg c8] at H;cases H
   rw [if_neg c6] at H;cases H
  rw [if_neg c5] at H;cases H
 rw [if_neg c4] at H;have c4b0 : decide (0 ≤ t510) = false := decide_eq_false c4;clear c4;simp only [Option.some.injEq, Prod.mk.injEq] at H;obtain ⟨rfl, rfl, rfl⟩ := H;go_enter Tryd.func83, Tryd.ntmps83
 go_wp2_with (first | (go_at_call 95; (with_reducible refine (stringslite_Index.calls a0 a1 t510 _ A3.out).mono ?_); rintro e w' ⟨rfl, ⟨nd, rfl⟩⟩; (try first | exact ⟨rfl, _, World.drewN_drewN _ _ _⟩ | exact ⟨rfl, _, Eq.trans (World.drewN_drewN _ _ _) (congrArg (World.drewN _) (Nat.add_assoc _ _ _))⟩)))
 repeat (go_quiet (fail); try go_wp2)
 go_ret3
 exact ⟨zS, zW⟩

def strings_Cut.f (a0 : ByteArray) (a1 : ByteArray) : Option (ByteArray × ByteArray × Bool) := (stringslite_Cut.f a0 a1).bind fun bt511 => (some (bt511.1, bt511.2.1, bt511.2.2))
set_option maxHeartbeats 8000000 in
set_option maxRecDepth 100000 in
theorem strings_Cut.calls (a0 : ByteArray) (a1 : ByteArray) (r1 : ByteArray) (r2 : ByteArray) (r3 : Bool) (w : World) (h : strings_Cut.f a0 a1 = some (r1, r2, r3)) :
 Calls Tryd.prog 53 #[.string a0, .string a1] w fun e w' => e = .returned (.tuple #[.string r1, .string r2, .bool r3]) ∧ Drawn0 w w' := by
 have H : ((stringslite_Cut.f a0 a1).bind fun bt511 => (some (bt511.1, bt511.2.1, bt511.2.2))) = some (r1, r2, r3) := h;clear h;obtain ⟨⟨t511, t512, t513⟩, A30, H⟩ := zi H;dsimp only at H;have A3 := zA A30;clear A30;simp only [Option.some.injEq, Prod.mk.injEq] at H;obtain ⟨rfl, rfl, rfl⟩ := H;go_enter Tryd.func53, Tryd.ntmps53
 go_wp2_with (first | ((with_reducible refine gate_callee (f := 83) rfl ?_); refine goesL_ (some 9) rfl rfl Tryd.func83 zk rfl #[.string a0, .string a1] rfl zX ?_; (with_reducible refine (stringslite_Cut.calls a0 a1 t511 t512 t513 _ A3.out).mono ?_); rintro e w' ⟨rfl, ⟨nd, rfl⟩⟩; refine ⟨_, rfl, ?_⟩))
 go_ret3
 exact ⟨zS, zW⟩

def rational_digits.l0 : Nat → ByteArray → Int → Option (Bool)
 | 0, _, _ => none
 | k + 1, x0, x3 => if x3 < (x0.size : Int) then (if 0 ≤ x3 then (if (bt x0 x3) < 48 then (some false) else (if (bt x0 x3) > 57 then (some false) else (rational_digits.l0 k x0 (wrap64 (x3 + 1))))) else (none)) else (some (!x0.toList.isEmpty))
def rational_digits.f (k : Nat) (a0 : ByteArray) : Option (Bool) := rational_digits.l0 k a0 0
theorem rational_digits.mono_l : ∀ k, (∀ y0 y1, LeO (rational_digits.l0 k y0 y1) (rational_digits.l0 (k + 1) y0 y1))
 | 0 => fun _ _ r h => by simp [rational_digits.l0] at h
 | k + 1 => by
  have ih0 := rational_digits.mono_l k
  intro y0 y1
  unfold rational_digits.l0
  exact zm1 ih0
theorem rational_digits.mono : ∀ a0 k, LeO (rational_digits.f k a0) (rational_digits.f (k + 1) a0) := by
 intro a0 k;have ih0 := rational_digits.mono_l k;unfold rational_digits.f;exact zm1 ih0
set_option maxHeartbeats 8000000 in
set_option maxRecDepth 100000 in
theorem rational_digits.calls (k : Nat) (a0 : ByteArray) (r : Bool) (w : World) (h : rational_digits.f k a0 = some r) :
 Calls Tryd.prog 54 #[.string a0] w fun e w' => e = .returned (.bool r) ∧ Drawn0 w w' := by
 have H : (rational_digits.l0 k a0 0) = some r := h;clear h;have H' := zA H;clear H;go_enter Tryd.func54, Tryd.ntmps54
 go_wp2
 go_loopg [3] k (fun kq v3 w' => ∃ (x3_1 : Int), v3 = .int .i64 x3_1 ∧ Aside0 (rational_digits.l0 kq a0 x3_1 = some r) ∧ Aside0 (kq ≤ k) ∧ Drawn0 w w')
 case atStart => exact ⟨(0), zS, H', ⟨Nat.le_refl _⟩, zW⟩
 case round =>
  clear H';obtain ⟨x3_1, rfl, HA, HK1, ⟨m1, rfl⟩⟩ := hrel;cases gk with
  | zero => exact absurd HA.out (by simp [rational_digits.l0])
  | succ k1 =>
   have H := HA.out;clear HA;simp only [rational_digits.l0] at H;by_cases c2 : x3_1 < (a0.size : Int)
   ·rw [if_pos c2] at H;have c2b0 := decide_eq_true c2;clear c2;by_cases c3 : 0 ≤ x3_1
    ·rw [if_pos c3] at H;have c3b0 := decide_eq_true c3;clear c3;by_cases c5 : (bt a0 x3_1) < 48
     ·rw [if_pos c5] at H;have c5b0 := decide_eq_true c5;clear c5;obtain rfl := Option.some.inj H;have p4 : 0 ≤ (x3_1 : Int) := zD;have q4 : x3_1 < (a0.size : Int) := zD;have hx4 := bt_at a0 x3_1;replace p4 := eq_true p4;replace q4 := eq_true q4
      go_wp2
      go_ret
      exact ⟨zS, zW⟩
     rw [if_neg c5] at H;have c5b0 := decide_eq_false c5;clear c5;by_cases c7 : (bt a0 x3_1) > 57
     ·rw [if_pos c7] at H;have c7b0 : decide (57 < (bt a0 x3_1)) = true := decide_eq_true c7;clear c7;obtain rfl := Option.some.inj H;have p4 : 0 ≤ (x3_1 : Int) := zD;have q4 : x3_1 < (a0.size : Int) := zD;have hx4 := bt_at a0 x3_1;replace p4 := eq_true p4;replace q4 := eq_true q4;have p6 : 0 ≤ (x3_1 : Int) := zD;have q6 : x3_1 < (a0.size : Int) := zD;have hx6 := bt_at a0 x3_1;replace p6 := eq_true p6;replace q6 := eq_true q6
      go_wp2
      go_ret
      exact ⟨zS, zW⟩
     rw [if_neg c7] at H;have c7b0 : decide (57 < (bt a0 x3_1)) = false := decide_eq_false c7;clear c7;have H' := zA H;clear H;have p4 : 0 ≤ (x3_1 : Int) := zD;have q4 : x3_1 < (a0.size : Int) := zD;have hx4 := bt_at a0 x3_1;replace p4 := eq_true p4;replace q4 := eq_true q4;have p6 : 0 ≤ (x3_1 : Int) := zD;have q6 : x3_1 < (a0.size : Int) := zD;have hx6 := bt_at a0 x3_1;replace p6 := eq_true p6;replace q6 := eq_true q6
     go_wp2
     go_roundg k1
     case measure => have := HK1.out; omega
     case rel => exact ⟨(wrap64 (x3_1 + 1)), zS, H', ⟨by have := HK1.out; omega⟩, zW⟩
    rw [if_neg c3] at H;cases H
   rw [if_neg c2] at H;have c2b0 := decide_eq_false c2;clear c2;obtain rfl := Option.some.inj H
   go_wp2
   go_ret
   exact ⟨zS, zW⟩

def strings_trimLeftByte.l0 : Nat → ByteArray → Int → Option (ByteArray)
 | 0, _, _ => none
 | k + 1, x0, x1 => if (x0.size : Int) > 0 then (if 0 < (x0.size : Int) then (if (bt x0 0) = x1 then (if 1 ≤ (x0.size : Int) then (strings_trimLeftByte.l0 k (x0.extract 1 x0.size) x1) else (none)) else (some x0)) else (none)) else (some x0)
def strings_trimLeftByte.f (k : Nat) (a0 : ByteArray) (a1 : Int) : Option (ByteArray) := strings_trimLeftByte.l0 k a0 a1
theorem strings_trimLeftByte.mono_l : ∀ k, (∀ y0 y1, LeO (strings_trimLeftByte.l0 k y0 y1) (strings_trimLeftByte.l0 (k + 1) y0 y1))
 | 0 => fun _ _ r h => by simp [strings_trimLeftByte.l0] at h
 | k + 1 => by
  have ih0 := strings_trimLeftByte.mono_l k
  intro y0 y1
  unfold strings_trimLeftByte.l0
  exact zm1 ih0
theorem strings_trimLeftByte.mono : ∀ a0 a1 k, LeO (strings_trimLeftByte.f k a0 a1) (strings_trimLeftByte.f (k + 1) a0 a1) := by
 intro a0 a1 k;have ih0 := strings_trimLeftByte.mono_l k;unfold strings_trimLeftByte.f;exact zm1 ih0
set_option maxHeartbeats 8000000 in
set_option maxRecDepth 100000 in
theorem strings_trimLeftByte.calls (k : Nat) (a0 : ByteArray) (a1 : Int) (r : ByteArray) (w : World) (h : strings_trimLeftByte.f k a0 a1 = some r) :
 Calls Tryd.prog 96 #[.string a0, .int .u8 a1] w fun e w' => e = .returned (.string r) ∧ Drawn0 w w' := by
 have H : (strings_trimLeftByte.l0 k a0 a1) = some r := h;clear h;have H' := zA H;clear H;go_enter Tryd.func96, Tryd.ntmps96
 go_wp2
 go_loopg [0] k (fun kq v0 w' => ∃ (x0_1 : ByteArray), v0 = .string x0_1 ∧ Aside0 (strings_trimLeftByte.l0 kq x0_1 a1 = some r) ∧ Aside0 (kq ≤ k) ∧ Drawn0 w w')
 case atStart => exact ⟨(a0), zS, H', ⟨Nat.le_refl _⟩, zW⟩
 case round =>
  clear H';obtain ⟨x0_1, rfl, HA, HK1, ⟨m1, rfl⟩⟩ := hrel;cases gk with
  | zero => exact absurd HA.out (by simp [strings_trimLeftByte.l0])
  | succ k1 =>
   have H := HA.out;clear HA;simp only [strings_trimLeftByte.l0] at H;by_cases c3 : (x0_1.size : Int) > 0
   ·rw [if_pos c3] at H;have c3b0 : decide (0 < (x0_1.size : Int)) = true := decide_eq_true c3;have c3b1 : decide (0 < x0_1.size) = true := decide_eq_true (by omega);clear c3;by_cases c4 : 0 < (x0_1.size : Int)
    ·rw [if_pos c4] at H;have c4b0 := decide_eq_true c4;have c4b1 : decide (0 < x0_1.size) = true := decide_eq_true (by omega);clear c4;by_cases c6 : (bt x0_1 0) = a1
     ·rw [if_pos c6] at H;have c6b0 := beq_iff_eq.mpr c6;have c6b1 := bne_eq_false_iff_eq.mpr c6;clear c6;by_cases c7 : 1 ≤ (x0_1.size : Int)
      ·rw [if_pos c7] at H;have c7b0 := eq_true c7;have c7b1 := decide_eq_true c7;clear c7;have H' := zA H;clear H;have p5 : 0 ≤ (0 : Int) := (by omega);have q5 : 0 < x0_1.size := (by have : (0 : Int) < (x0_1.size : Int) := zD; omega);have hx5 : ∀ h : 0 < x0_1.size, ((x0_1[0]'h).toNat : Int) = bt x0_1 0 := bt_at x0_1 0;clear p5;have qi5 : (0 < (x0_1.size : Int)) = True := eq_true zD;replace q5 := eq_true q5
       go_wp2
       go_roundg k1
       case measure => have := HK1.out; omega
       case rel => exact ⟨(x0_1.extract 1 x0_1.size), zS, H', ⟨by have := HK1.out; omega⟩, zW⟩
      rw [if_neg c7] at H;cases H
     rw [if_neg c6] at H;have c6b0 := beq_eq_false_iff_ne.mpr c6;have c6b1 := bne_iff_ne.mpr c6;obtain rfl := Option.some.inj H;have p5 : 0 ≤ (0 : Int) := (by omega);have q5 : 0 < x0_1.size := (by have : (0 : Int) < (x0_1.size : Int) := zD; omega);have hx5 : ∀ h : 0 < x0_1.size, ((x0_1[0]'h).toNat : Int) = bt x0_1 0 := bt_at x0_1 0;clear p5;have qi5 : (0 < (x0_1.size : Int)) = True := eq_true zD;replace q5 := eq_true q5
     go_wp2
     go_ret
     exact ⟨zS, zW⟩
    rw [if_neg c4] at H;cases H
   rw [if_neg c3] at H;have c3b0 : decide (0 < (x0_1.size : Int)) = false := decide_eq_false c3;have c3b1 : decide (0 < x0_1.size) = false := decide_eq_false (by omega);clear c3;obtain rfl := Option.some.inj H
   go_wp2
   go_ret
   exact ⟨zS, zW⟩

end Go.Proofs.YtoeldfopjalpkaaDoor.Q

