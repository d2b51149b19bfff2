/- Lemmas for the proof of one law of this seat (Qx1). -/
import Derived.Test.YtoeldfopjalpkaaDoorZRationalTextQx0
namespace Go.Proofs.YtoeldfopjalpkaaDoor.Q
open Go.RowKit Go.Proofs.YtoeldfopjalpkaaDoorW.PrintWords Go.Proofs.YtoeldfopjalpkaaDoorW.PrintLast Go.Proofs.YtoeldfopjalpkaaDoorW.PrintMore
attribute [local go_sem] max2_int min2_int max_two min_two max_three min_three max_four min_four   -- for this text's walks alone
set_option linter.unusedVariables false
set_option linter.unusedSimpArgs false

def rational_one.f  : Option (List Int) := some (([1] : List Int))
set_option maxHeartbeats 8000000 in
set_option maxRecDepth 100000 in
theorem rational_one.calls  (r : List Int) (w : World) (h : rational_one.f  = some r) :
 Calls Tryd.prog 56 #[] w fun e w' => ∃ v0_ : Value, e = .returned (v0_) ∧ Kd.R (Kd.int .u32) 37 w' w.heap.size (fun _ => True) v0_ r ∧ Below w.heap.size w w' := by
 have HB := zA (Below.refl w.heap.size w);have H : (some (([1] : List Int))) = some r := h;clear h;obtain ⟨y101, hy101⟩ : ∃ y_ : List Int, y_ = (([1] : List Int)) := ⟨_, rfl⟩;replace H : (some y101) = some r := zY hy101 H;have Ny101 := zA hy101;clear hy101;obtain rfl := Option.some.inj H;go_enter Tryd.func56, Tryd.ntmps56
 go_wp2_with (first | ((with_reducible refine gate_dst (N := 1) rfl ?_); refine Kd.R_lit (Kd.int .u32) _ 37 ?hg (N := 1) ?hd (xs := ([1] : List Int)) (inner := [.int .u32 1]) (ok := fun _ => True) (okp := fun _ => True) ?hr ?hp (fun _ hk => hk) trivial (Below.refl _ _) (Nat.le_refl _) (by simp) ?_; (case hd => rfl); (case hg => rfl); (case hr => first | (go_simp; done) | (go_simp; rfl)); (case hp => exact (Reps.one (show Kd.M (Kd.int .u32) _ _ _ 1 [.int .u32 1] from rfl) (Reps.none _ _))); intro v102 w1 ho2 hb hg_ hnew_; clear hg_ hnew_; (first | rw [← Ny101.out] at ho2 | (simp only [Int.reduceToNat] at ho2; rw [← Ny101.out] at ho2)); have HO103 := zA (Kd.R_lower ho2 (below_size zH)); replace HB := zA (below_step zH hb); clear hb ho2))
 go_ret
 exact ⟨_, zE, zR HO103.out, zH⟩

def bignat_trim.l0 : Nat → List Int → Int → Option (List Int)
 | 0, _, _ => none
 | k + 1, x0, x3 => if x3 > 0 then (if 0 ≤ (wrap64 (x3 - 1)) then (if (wrap64 (x3 - 1)) < (x0.length : Int) then (if (rd x0 (wrap64 (x3 - 1))) = 0 then (bignat_trim.l0 k x0 (wrap64 (x3 - 1))) else (if 0 ≤ x3 then (if x3 ≤ (x0.length : Int) then (some (x0.take (x3 : Int).toNat)) else (none)) else (none))) else (none)) else (none)) else (if 0 ≤ x3 then (if x3 ≤ (x0.length : Int) then (some (x0.take (x3 : Int).toNat)) else (none)) else (none))
def bignat_trim.f (k : Nat) (l0 : List Int) : Option (List Int) := bignat_trim.l0 k l0 (l0.length : Int)
theorem bignat_trim.mono_l : ∀ k, (∀ y0 y1, LeO (bignat_trim.l0 k y0 y1) (bignat_trim.l0 (k + 1) y0 y1))
 | 0 => fun _ _ r h => by simp [bignat_trim.l0] at h
 | k + 1 => by
  have ih0 := bignat_trim.mono_l k
  intro y0 y1
  unfold bignat_trim.l0
  exact zm1 ih0
theorem bignat_trim.mono : ∀ a0 k, LeO (bignat_trim.f k a0) (bignat_trim.f (k + 1) a0) := by
 intro a0 k;have ih0 := bignat_trim.mono_l k;unfold bignat_trim.f;exact zm1 ih0
set_option maxHeartbeats 8000000 in
set_option maxRecDepth 100000 in
theorem bignat_trim.calls (k : Nat) (P0_ : Nat → Prop) (A0 : Option Addr) (c0 : Nat) (l0 : List Int) (r : List Int) (w : World) (hs0 : Kd.V (Kd.int .u32) 37 w w.heap.size (fun k_ => P0_ k_) (.slice A0 l0.length c0) l0) (h : bignat_trim.f k l0 = some r) :
 Calls Tryd.prog 71 #[.slice A0 l0.length c0] w fun e w' => ∃ v0_ : Value, e = .returned (v0_) ∧ Kd.V (Kd.int .u32) 37 w' w.heap.size (fun k_ => (P0_ k_ ∨ w.heap.size ≤ k_)) v0_ r ∧ Below w.heap.size w w' := by
 have HO0 := zA (show Kd.V (Kd.int .u32) 37 w w.heap.size (fun k_ => (P0_ k_ ∨ w.heap.size ≤ k_)) (.slice A0 l0.length c0) l0 from Kd.V_mono hs0 (fun k_ hk => .inl hk));have HB := zA (Below.refl w.heap.size w);have H : (bignat_trim.l0 k l0 (l0.length : Int)) = some r := h;clear h;have H' := zA H;clear H;go_enter Tryd.func71, Tryd.ntmps71
 go_wp2
 go_loopg [3] k (fun kq v3 w' => ∃ (x3_1 : Int), v3 = .int .i64 x3_1 ∧ Aside0 (bignat_trim.l0 kq l0 x3_1 = some r) ∧ Aside0 (kq ≤ k) ∧ Aside0 (Kd.V (Kd.int .u32) 37 w' w.heap.size (fun k_ => (P0_ k_ ∨ w.heap.size ≤ k_)) (.slice A0 l0.length c0) l0) ∧ Aside0 (Below w.heap.size w w'))
 case atStart => exact ⟨((l0.length : Int)), zS, H', ⟨Nat.le_refl _⟩, ⟨zV HO0.out⟩, ⟨zH⟩⟩
 case round =>
  clear H';obtain ⟨x3_1, rfl, HA, HK1, HO_0, HB⟩ := hrel;cases gk with
  | zero => exact absurd HA.out (by simp [bignat_trim.l0])
  | succ k1 =>
   have H := HA.out;clear HA;simp only [bignat_trim.l0] at H;by_cases c2 : x3_1 > 0
   ·rw [if_pos c2] at H;have c2b0 : decide (0 < x3_1) = true := decide_eq_true c2;clear c2;obtain ⟨ji3, hji3⟩ : ∃ j_ : Int, (wrap64 (x3_1 - 1)) = j_ := ⟨_, rfl⟩
    first | rw [hji3] at H | simp only [hji3] at H
    have hji3w : (IntKind.i64.wrap (x3_1 - 1)) = ji3 := (i64_w _).trans hji3;by_cases c4 : 0 ≤ (ji3)
    ·rw [if_pos c4] at H;have c4b0 := decide_eq_true c4;clear c4;by_cases c5 : (ji3) < (l0.length : Int)
     ·rw [if_pos c5] at H;have c5b0 := decide_eq_true c5;clear c5;by_cases c6 : (rd l0 (ji3)) = 0
      ·rw [if_pos c6] at H;have c6b0 := beq_iff_eq.mpr c6;have c6b1 := bne_eq_false_iff_eq.mpr c6;clear c6;have H' := zA H;clear H;have p104 : 0 ≤ ((ji3) : Int) := zD;have q104 : (ji3) < (l0.length : Int) := zD;obtain ⟨ad104, e104, hx104_0⟩ := Kd.at_int (Kd.V_reads' HO_0.out).2.2 (ji3) p104 q104;cases e104;replace p104 := eq_true p104;replace q104 := eq_true q104
       go_wp2
       go_roundg k1
       case measure => have := HK1.out; omega
       case rel => exact ⟨(ji3), (by first | rfl | (simp; done) | (simp only [← hji3] <;> (first | rfl | simp)) | (simp [*]; done)), H', ⟨by have := HK1.out; omega⟩, ⟨zV HO_0.out⟩, ⟨zH⟩⟩
      rw [if_neg c6] at H;have c6b0 := beq_eq_false_iff_ne.mpr c6;have c6b1 := bne_iff_ne.mpr c6;by_cases c7 : 0 ≤ x3_1
      ·rw [if_pos c7] at H;have c7b0 := eq_true c7;have c7b1 := decide_eq_true c7;clear c7;by_cases c8 : x3_1 ≤ (l0.length : Int)
       ·rw [if_pos c8] at H;have c8b0 := eq_true c8;have c8b1 := decide_eq_true c8;clear c8;obtain ⟨y105, hy105⟩ : ∃ y_ : List Int, y_ = (l0.take (x3_1 : Int).toNat) := ⟨_, rfl⟩;replace H : (some y105) = some r := zY hy105 H;have Ny105 := zA hy105;clear hy105;obtain rfl := Option.some.inj H;have p104 : 0 ≤ ((ji3) : Int) := zD;have q104 : (ji3) < (l0.length : Int) := zD;obtain ⟨ad104, e104, hx104_0⟩ := Kd.at_int (Kd.V_reads' HO_0.out).2.2 (ji3) p104 q104;cases e104;replace p104 := eq_true p104;replace q104 := eq_true q104;have q9 : (x3_1 : Int) ≤ ((l0.length : Int) : Int) := zD;obtain ⟨i09, hi09, _, hsz9, _⟩ := info_parts info37;have hroom9 : l0.length ≤ c0 := (Kd.V_reads' HO_0.out).2.1;have hC9 : Kd.F (Kd.int .u32) _ _ (some ad104) l0.length l0 := (Kd.V_at (base := w.heap.size) HO_0.out).2.2;have hcut9 := cut_to (P := Tryd.prog) 23 37 .i64 Tryd.underlying23 hi09 (some ad104) l0.length c0 x3_1 zD q9 hroom9;have hr9 := Kd.F_take (m := (x3_1 : Int).toNat) hC9 (by omega);have hy9 : y105.length = (x3_1 : Int).toNat := (by rw [Ny105.out, List.length_take]; omega);rw [← Ny105.out] at hr9;rw [← hy9] at hcut9;have HO109 := zA (show Kd.V (Kd.int .u32) 37 _ w.heap.size _ (.slice (some ad104) y105.length c0) y105 from Kd.V_mk (by omega) hr9);have HC109 := zA (show y105.length ≤ c0 from by omega);clear hr9 hC9 hroom9 hi09 hsz9;have KY9 := zA hy9;clear hy9;replace q9 := eq_true q9
        go_wp2
        go_ret
        exact ⟨_, by first | rfl | (simp [errW_none, errW_some] <;> rfl) | (simp only [← hji3]; first | rfl | (simp [errW_none, errW_some] <;> rfl)) | (simp [*, errW_none, errW_some] <;> rfl), zV HO109.out, zH⟩
       rw [if_neg c8] at H;cases H
      rw [if_neg c7] at H;cases H
     rw [if_neg c5] at H;cases H
    rw [if_neg c4] at H;cases H
   rw [if_neg c2] at H;have c2b0 : decide (0 < x3_1) = false := decide_eq_false c2;clear c2;by_cases c10 : 0 ≤ x3_1
   ·rw [if_pos c10] at H;have c10b0 := eq_true c10;have c10b1 := decide_eq_true c10;clear c10;by_cases c11 : x3_1 ≤ (l0.length : Int)
    ·rw [if_pos c11] at H;have c11b0 := eq_true c11;have c11b1 := decide_eq_true c11;clear c11;obtain ⟨y110, hy110⟩ : ∃ y_ : List Int, y_ = (l0.take (x3_1 : Int).toNat) := ⟨_, rfl⟩;replace H : (some y110) = some r := zY hy110 H;have Ny110 := zA hy110;clear hy110;obtain rfl := Option.some.inj H;have q12 : (x3_1 : Int) ≤ ((l0.length : Int) : Int) := zD;obtain ⟨i012, hi012, _, hsz12, _⟩ := info_parts info37;have hroom12 : l0.length ≤ c0 := (Kd.V_reads' HO_0.out).2.1;have hC12 : Kd.F (Kd.int .u32) _ _ A0 l0.length l0 := (Kd.V_at (base := w.heap.size) HO_0.out).2.2;have hcut12 := cut_to (P := Tryd.prog) 23 37 .i64 Tryd.underlying23 hi012 A0 l0.length c0 x3_1 zD q12 hroom12;have hr12 := Kd.F_take (m := (x3_1 : Int).toNat) hC12 (by omega);have hy12 : y110.length = (x3_1 : Int).toNat := (by rw [Ny110.out, List.length_take]; omega);rw [← Ny110.out] at hr12;rw [← hy12] at hcut12;have HO114 := zA (show Kd.V (Kd.int .u32) 37 _ w.heap.size _ (.slice A0 y110.length c0) y110 from Kd.V_mk (by omega) hr12);have HC114 := zA (show y110.length ≤ c0 from by omega);clear hr12 hC12 hroom12 hi012 hsz12;have KY12 := zA hy12;clear hy12;replace q12 := eq_true q12
     go_wp2
     go_ret
     exact ⟨_, zE, zV HO114.out, zH⟩
    rw [if_neg c11] at H;cases H
   rw [if_neg c10] at H;cases H

set_option maxHeartbeats 8000000 in
set_option maxRecDepth 100000 in
theorem bignat_trimO.calls (k : Nat) (P0_ : Nat → Prop) (u9000_ : Value) (l0 : List Int) (r : List Int) (w0 w : World) (hB : Below w0.heap.size w0 w) (ho0 : Kd.R (Kd.int .u32) 37 w w0.heap.size P0_ u9000_ l0) (h : bignat_trim.f k l0 = some r) :
 Calls Tryd.prog 71 #[u9000_] w fun e w' => ∃ v0_ : Value, e = .returned (v0_) ∧ Kd.R (Kd.int .u32) 37 w' w0.heap.size (fun k_ => (P0_ k_ ∨ w.heap.size ≤ k_)) v0_ r ∧ Below w0.heap.size w0 w' ∧ Kept w w' (fun k_ => P0_ k_) := by
 have HO0 := zA (show Kd.R (Kd.int .u32) 37 w w0.heap.size (fun k_ => (P0_ k_ ∨ w.heap.size ≤ k_)) u9000_ l0 from Kd.R_mono ho0 (fun k_ hk => (.inl hk)));have HK := zA (Kept.refl w (fun k_ => P0_ k_));have HW0 := zA hB.size;have HB := zA hB;clear hB;have H : (bignat_trim.l0 k l0 (l0.length : Int)) = some r := h;clear h;have H' := zA H;clear H;obtain ⟨Ao2, co2, eo2⟩ := Kd.R_slice HO0.out;subst eo2;go_enter Tryd.func71, Tryd.ntmps71
 go_wp2
 go_loopg [3] k (fun kq v3 w' => ∃ (x3_1 : Int), v3 = .int .i64 x3_1 ∧ Aside0 (bignat_trim.l0 kq l0 x3_1 = some r) ∧ Aside0 (kq ≤ k) ∧ Aside0 (Kd.R (Kd.int .u32) 37 w' w0.heap.size (fun k_ => (P0_ k_ ∨ w.heap.size ≤ k_)) (.slice Ao2 l0.length co2) l0) ∧ Aside0 (Kept w w' (fun k_ => P0_ k_)) ∧ Aside0 (Below w0.heap.size w0 w'))
 case atStart => exact ⟨((l0.length : Int)), zS, H', ⟨Nat.le_refl _⟩, ⟨zR HO0.out⟩, ⟨zK⟩, ⟨zH⟩⟩
 case round =>
  clear H';obtain ⟨x3_1, rfl, HA, HK1, HO_0, HK, HB⟩ := hrel;cases gk with
  | zero => exact absurd HA.out (by simp [bignat_trim.l0])
  | succ k1 =>
   have H := HA.out;clear HA;simp only [bignat_trim.l0] at H;by_cases c3 : x3_1 > 0
   ·rw [if_pos c3] at H;have c3b0 : decide (0 < x3_1) = true := decide_eq_true c3;clear c3;obtain ⟨ji4, hji4⟩ : ∃ j_ : Int, (wrap64 (x3_1 - 1)) = j_ := ⟨_, rfl⟩
    first | rw [hji4] at H | simp only [hji4] at H
    have hji4w : (IntKind.i64.wrap (x3_1 - 1)) = ji4 := (i64_w _).trans hji4;(try (have hji4r := hji4; simp only [hji3] at hji4r));(try (have hji4wr := hji4w; simp only [hji3] at hji4wr));by_cases c5 : 0 ≤ (ji4)
    ·rw [if_pos c5] at H;have c5b0 := decide_eq_true c5;clear c5;by_cases c6 : (ji4) < (l0.length : Int)
     ·rw [if_pos c6] at H;have c6b0 := decide_eq_true c6;clear c6;by_cases c7 : (rd l0 (ji4)) = 0
      ·rw [if_pos c7] at H;have c7b0 := beq_iff_eq.mpr c7;have c7b1 := bne_eq_false_iff_eq.mpr c7;clear c7;have H' := zA H;clear H;have p115 : 0 ≤ ((ji4) : Int) := zD;have q115 : (ji4) < (l0.length : Int) := zD;obtain ⟨ad115, e115, hx115_0⟩ := Kd.at_int (Kd.R_reads' HO_0.out).2.2 (ji4) p115 q115;cases e115;replace p115 := eq_true p115;replace q115 := eq_true q115
       go_wp2
       go_roundg k1
       case measure => have := HK1.out; omega
       case rel => exact ⟨(ji4), (by first | rfl | (simp; done) | (simp only [← hji4] <;> (first | rfl | simp)) | (simp [*]; done)), H', ⟨by have := HK1.out; omega⟩, ⟨zR HO_0.out⟩, ⟨zK⟩, ⟨zH⟩⟩
      rw [if_neg c7] at H;have c7b0 := beq_eq_false_iff_ne.mpr c7;have c7b1 := bne_iff_ne.mpr c7;by_cases c8 : 0 ≤ x3_1
      ·rw [if_pos c8] at H;have c8b0 := eq_true c8;have c8b1 := decide_eq_true c8;clear c8;by_cases c9 : x3_1 ≤ (l0.length : Int)
       ·rw [if_pos c9] at H;have c9b0 := eq_true c9;have c9b1 := decide_eq_true c9;clear c9;obtain ⟨y116, hy116⟩ : ∃ y_ : List Int, y_ = (l0.take (x3_1 : Int).toNat) := ⟨_, rfl⟩;replace H : (some y116) = some r := zY hy116 H;have Ny116 := zA hy116;clear hy116;obtain rfl := Option.some.inj H;have p115 : 0 ≤ ((ji4) : Int) := zD;have q115 : (ji4) < (l0.length : Int) := zD;obtain ⟨ad115, e115, hx115_0⟩ := Kd.at_int (Kd.R_reads' HO_0.out).2.2 (ji4) p115 q115;cases e115;replace p115 := eq_true p115;replace q115 := eq_true q115;have q10 : (x3_1 : Int) ≤ ((l0.length : Int) : Int) := zD;obtain ⟨i010, hi010, _, hsz10, _⟩ := info_parts info37;have hcut10 := cut_to (P := Tryd.prog) 23 37 .i64 Tryd.underlying23 hi010 (some ad115) l0.length co2 x3_1 zD q10 (Kd.R_reads' HO_0.out).2.1;have hr10 := Kd.R_take (m := (x3_1 : Int).toNat) HO_0.out (by omega);have hy10 : y116.length = (x3_1 : Int).toNat := (by rw [Ny116.out, List.length_take]; omega);rw [← Ny116.out] at hr10;rw [← hy10] at hr10 hcut10;clear hy10 hi010 hsz10 HO_0;have HO118 := zA hr10;clear hr10;replace q10 := eq_true q10
        go_wp2
        go_ret
        exact ⟨_, by first | rfl | (simp [errW_none, errW_some] <;> rfl) | (simp only [← hji4]; first | rfl | (simp [errW_none, errW_some] <;> rfl)) | (simp [*, errW_none, errW_some] <;> rfl), zR HO118.out, zH, zK⟩
       rw [if_neg c9] at H;cases H
      rw [if_neg c8] at H;cases H
     rw [if_neg c6] at H;cases H
    rw [if_neg c5] at H;cases H
   rw [if_neg c3] at H;have c3b0 : decide (0 < x3_1) = false := decide_eq_false c3;clear c3;by_cases c11 : 0 ≤ x3_1
   ·rw [if_pos c11] at H;have c11b0 := eq_true c11;have c11b1 := decide_eq_true c11;clear c11;by_cases c12 : x3_1 ≤ (l0.length : Int)
    ·rw [if_pos c12] at H;have c12b0 := eq_true c12;have c12b1 := decide_eq_true c12;clear c12;obtain ⟨y119, hy119⟩ : ∃ y_ : List Int, y_ = (l0.take (x3_1 : Int).toNat) := ⟨_, rfl⟩;replace H : (some y119) = some r := zY hy119 H;have Ny119 := zA hy119;clear hy119;obtain rfl := Option.some.inj H;have q13 : (x3_1 : Int) ≤ ((l0.length : Int) : Int) := zD;obtain ⟨i013, hi013, _, hsz13, _⟩ := info_parts info37;have hcut13 := cut_to (P := Tryd.prog) 23 37 .i64 Tryd.underlying23 hi013 Ao2 l0.length co2 x3_1 zD q13 (Kd.R_reads' HO_0.out).2.1;have hr13 := Kd.R_take (m := (x3_1 : Int).toNat) HO_0.out (by omega);have hy13 : y119.length = (x3_1 : Int).toNat := (by rw [Ny119.out, List.length_take]; omega);rw [← Ny119.out] at hr13;rw [← hy13] at hr13 hcut13;clear hy13 hi013 hsz13 HO_0;have HO121 := zA hr13;clear hr13;replace q13 := eq_true q13
     go_wp2
     go_ret
     exact ⟨_, zE, zR HO121.out, zH, zK⟩
    rw [if_neg c12] at H;cases H
   rw [if_neg c11] at H;cases H

def bignat_clone.f (k : Nat) (l0 : List Int) : Option (List Int) := (bignat_trim.f k l0).bind fun t122 => (if (t122.length : Int) = 0 then (some ([] : List Int)) else (if ([] : List Int).length + t122.length < 35184372088832 then (some (([] : List Int) ++ t122)) else (none)))
theorem bignat_clone.mono : ∀ a0 k, LeO (bignat_clone.f k a0) (bignat_clone.f (k + 1) a0) := by
 intro a0 k;unfold bignat_clone.f;exact zm1 bignat_trim.mono
set_option maxHeartbeats 8000000 in
set_option maxRecDepth 100000 in
theorem bignat_clone.calls (k : Nat) (A0 : Option Addr) (c0 : Nat) (l0 : List Int) (r : List Int) (w : World) (hr0 : Kd.C (Kd.int .u32) w A0 l0.length l0) (hc0 : l0.length ≤ c0) (h : bignat_clone.f k l0 = some r) :
 Calls Tryd.prog 64 #[.slice A0 l0.length c0] w fun e w' => ∃ v0_ : Value, e = .returned (v0_) ∧ Kd.R (Kd.int .u32) 37 w' w.heap.size (fun _ => True) v0_ r ∧ Below w.heap.size w w' := by
 have HR0 := zA hr0;have HC0 := zA hc0;clear hr0 hc0;have HB := zA (Below.refl w.heap.size w);have H : ((bignat_trim.f k l0).bind fun t122 => (if (t122.length : Int) = 0 then (some ([] : List Int)) else (if ([] : List Int).length + t122.length < 35184372088832 then (some (([] : List Int) ++ t122)) else (none)))) = some r := h;clear h;obtain ⟨t122, A20, H⟩ := zi H;have A2 := zA A20;clear A20;by_cases c3 : (t122.length : Int) = 0
 ·rw [if_pos c3] at H;have c3b0 := beq_iff_eq.mpr c3;have c3b1 := bne_eq_false_iff_eq.mpr c3;clear c3;obtain rfl := Option.some.inj H;go_enter Tryd.func64, Tryd.ntmps64
  go_wp2_with (first | ((with_reducible refine gate_callee (f := 71) rfl ?_); refine goesL_ (some 4) rfl rfl Tryd.func71 zk rfl #[.slice A0 l0.length c0] rfl zX ?_; (with_reducible refine (bignat_trim.calls k (fun k_ => k_ < w.heap.size) _ _ l0 t122 _ ?side1 A2.out).mono ?_); (case side1 => exact Kd.V_mk HC0.out (Kd.F_below (Kd.C_F (Kd.heap_int .u32) HR0.out) (zb HB rfl))); rintro e w4 ⟨v123, rfl, ho0, hb⟩; refine ⟨_, rfl, ?_⟩; have HO124 := zvl ho0 HB rfl; replace HB := zbb HB hb rfl; obtain ⟨Ao5, co5, eo5⟩ := Kd.V_slice HO124.out; subst eo5))
  go_ret
  exact ⟨_, zE, by first | exact Kd.R_nil _ _ _ _ _ | exact Kd.V_nil _ _ _ _ _, zH⟩
 rw [if_neg c3] at H;have c3b0 := beq_eq_false_iff_ne.mpr c3;have c3b1 := bne_iff_ne.mpr c3;have c3b2 : ¬ (t122 = []) := fun h_ => c3 (by rw [h_]; rfl)
 by_cases c6 : ([] : List Int).length + t122.length < 35184372088832
 ·rw [if_pos c6] at H;have LMc6 := zA c6;clear c6;obtain ⟨y125, hy125⟩ : ∃ y_ : List Int, y_ = (([] : List Int) ++ t122) := ⟨_, rfl⟩;replace H : (some y125) = some r := zY hy125 H;have Ny125 := zA hy125;clear hy125;obtain rfl := Option.some.inj H;go_enter Tryd.func64, Tryd.ntmps64
  go_wp2_with (first | ((with_reducible refine gate_callee (f := 71) rfl ?_); refine goesL_ (some 4) rfl rfl Tryd.func71 zk rfl #[.slice A0 l0.length c0] rfl zX ?_; (with_reducible refine (bignat_trim.calls k (fun k_ => k_ < w.heap.size) _ _ l0 t122 _ ?side1 A2.out).mono ?_); (case side1 => exact Kd.V_mk HC0.out (Kd.F_below (Kd.C_F (Kd.heap_int .u32) HR0.out) (zb HB rfl))); rintro e w7 ⟨v123, rfl, ho0, hb⟩; refine ⟨_, rfl, ?_⟩; have HO124 := zvl ho0 HB rfl; replace HB := zbb HB hb rfl; obtain ⟨Ao8, co8, eo8⟩ := Kd.V_slice HO124.out; subst eo8) | ((with_reducible refine gate_builtin (b := .append) (xs := #[.const (.slice none 0 0), .tmp 8]) rfl ?_); at_builtin; refine Kd.R_append_rows (Kd.int .u32) (w0 := w) w.heap.size rfl (.const (.slice none 0 0)) (.tmp 8) 23 37 (.int .u32 0) 4 rfl Tryd.underlying23 info37 rfl (by decide) (by omega) (.slice none 0 0) ([] : List Int) t122 _ _ _ (fun _ => True) (fun _ => False) rfl rfl ?aO ?aR (fun _ _ h => h) (fun _ h => h.elim) ?aF ?aB ?aS ?aL ?_; (case aR => exact zC (Kd.V_reads' HO124.out).2.2); (case aB => exact zH); (case aF => exact (fun _ _ => trivial)); (case aO => exact ((Kd.R_nil _ _ _ _ (fun _ => True)))); (case aS => exact (below_size zH)); (case aL => have := LMc6.out; omega); intro v126 w9 ho hb hg hat; rw [← Ny125.out] at ho; replace HO124 := zA (Kd.V_afterv (Kd.V_apart_nil (zV HO124.out)) hg hat); replace HB := zA (hb); have HO127 := zA (ho); clear ho hb hg hat))
  go_ret
  exact ⟨_, zE, zR HO127.out, zH⟩
 rw [if_neg c6] at H;cases H

def bignat_Normalize.f (k : Nat) (l0 : List Int) : Option (List Int) := (bignat_clone.f k l0).bind fun t128 => (some t128)
theorem bignat_Normalize.mono : ∀ a0 k, LeO (bignat_Normalize.f k a0) (bignat_Normalize.f (k + 1) a0) := by
 intro a0 k;unfold bignat_Normalize.f;exact zm1 bignat_clone.mono
set_option maxHeartbeats 8000000 in
set_option maxRecDepth 100000 in
theorem bignat_Normalize.calls (k : Nat) (A0 : Option Addr) (c0 : Nat) (l0 : List Int) (r : List Int) (w : World) (hr0 : Kd.C (Kd.int .u32) w A0 l0.length l0) (hc0 : l0.length ≤ c0) (h : bignat_Normalize.f k l0 = some r) :
 Calls Tryd.prog 76 #[.slice A0 l0.length c0] w fun e w' => ∃ v0_ : Value, e = .returned (v0_) ∧ Kd.R (Kd.int .u32) 37 w' w.heap.size (fun _ => True) v0_ r ∧ Below w.heap.size w w' := by
 have HR0 := zA hr0;have HC0 := zA hc0;clear hr0 hc0;have HB := zA (Below.refl w.heap.size w);have H : ((bignat_clone.f k l0).bind fun t128 => (some t128)) = some r := h;clear h;obtain ⟨t128, A20, H⟩ := zi H;have A2 := zA A20;clear A20;obtain rfl := Option.some.inj H;go_enter Tryd.func76, Tryd.ntmps76
 go_wp2_with (first | ((with_reducible refine gate_callee (f := 64) rfl ?_); refine goesL_ (some 4) rfl rfl Tryd.func64 zk rfl #[.slice A0 l0.length c0] rfl zX ?_; (with_reducible refine (bignat_clone.calls k _ _ l0 t128 _ ?side1 ?side2 A2.out).mono ?_); (case side1 => exact zC HR0.out); (case side2 => exact HC0.out); rintro e w3 ⟨v129, rfl, ho0, hb⟩; refine ⟨_, rfl, ?_⟩; have HO130 := zlo ho0 HB rfl; replace HB := zbb HB hb rfl))
 go_ret
 exact ⟨_, zE, zR HO130.out, zH⟩

def bignat_FromUint64.f (a0 : Int) : Option (List Int) := if a0 = 0 then (some ([] : List Int)) else (if (a0 / 4294967296) = 0 then (some (([(a0) % 4294967296] : List Int))) else (some (([(a0) % 4294967296, (a0 / 4294967296) % 4294967296] : List Int))))
set_option maxHeartbeats 8000000 in
set_option maxRecDepth 100000 in
theorem bignat_FromUint64.calls (a0 : Int) (r : List Int) (w : World) (h : bignat_FromUint64.f a0 = some r) :
 Calls Tryd.prog 22 #[.int .u64 a0] w fun e w' => ∃ v0_ : Value, e = .returned (v0_) ∧ Kd.R (Kd.int .u32) 37 w' w.heap.size (fun _ => True) v0_ r ∧ Below w.heap.size w w' := by
 have HB := zA (Below.refl w.heap.size w);have H : (if a0 = 0 then (some ([] : List Int)) else (if (a0 / 4294967296) = 0 then (some (([(a0) % 4294967296] : List Int))) else (some (([(a0) % 4294967296, (a0 / 4294967296) % 4294967296] : List Int))))) = some r := h;clear h;by_cases c2 : a0 = 0
 ·rw [if_pos c2] at H;have c2b0 := beq_iff_eq.mpr c2;have c2b1 := bne_eq_false_iff_eq.mpr c2;clear c2;obtain rfl := Option.some.inj H;go_enter Tryd.func22, Tryd.ntmps22
  go_wp2
  go_ret
  exact ⟨_, zE, by first | exact Kd.R_nil _ _ _ _ _ | exact Kd.V_nil _ _ _ _ _, zH⟩
 rw [if_neg c2] at H;have c2b0 := beq_eq_false_iff_ne.mpr c2;have c2b1 := bne_iff_ne.mpr c2;by_cases c3 : (a0 / 4294967296) = 0
 ·rw [if_pos c3] at H;have c3b0 := beq_iff_eq.mpr c3;have c3b1 := bne_eq_false_iff_eq.mpr c3;clear c3;obtain ⟨y131, hy131⟩ : ∃ y_ : List Int, y_ = (([(a0) % 4294967296] : List Int)) := ⟨_, rfl⟩;replace H : (some y131) = some r := zY hy131 H;have Ny131 := zA hy131;clear hy131;obtain rfl := Option.some.inj H;go_enter Tryd.func22, Tryd.ntmps22
  go_wp2_with (first | ((with_reducible refine gate_dst (N := 12) rfl ?_); refine Kd.R_lit (Kd.int .u32) _ 37 ?hg (N := 12) ?hd (xs := ([(a0) % 4294967296] : List Int)) (inner := [.int .u32 ((a0) % 4294967296)]) (ok := fun _ => True) (okp := fun _ => True) ?hr ?hp (fun _ hk => hk) trivial (Below.refl _ _) (Nat.le_refl _) (by simp) ?_; (case hd => rfl); (case hg => rfl); (case hr => first | (go_simp; done) | (go_simp; rfl)); (case hp => exact (Reps.one (show Kd.M (Kd.int .u32) _ _ _ ((a0) % 4294967296) [.int .u32 ((a0) % 4294967296)] from rfl) (Reps.none _ _))); intro v132 w4 ho5 hb hg_ hnew_; clear hg_ hnew_; (first | rw [← Ny131.out] at ho5 | (simp only [Int.reduceToNat] at ho5; rw [← Ny131.out] at ho5)); have HO133 := zA (Kd.R_lower ho5 (below_size zH)); replace HB := zA (below_step zH hb); clear hb ho5))
  go_ret
  exact ⟨_, zE, zR HO133.out, zH⟩
 rw [if_neg c3] at H;have c3b0 := beq_eq_false_iff_ne.mpr c3;have c3b1 := bne_iff_ne.mpr c3;obtain ⟨y134, hy134⟩ : ∃ y_ : List Int, y_ = (([(a0) % 4294967296, (a0 / 4294967296) % 4294967296] : List Int)) := ⟨_, rfl⟩;replace H : (some y134) = some r := zY hy134 H;have Ny134 := zA hy134;clear hy134;obtain rfl := Option.some.inj H;go_enter Tryd.func22, Tryd.ntmps22
 go_wp2_with (first | ((with_reducible refine gate_dst (N := 18) rfl ?_); refine Kd.R_lit (Kd.int .u32) _ 37 ?hg (N := 18) ?hd (xs := ([(a0) % 4294967296, (a0 / 4294967296) % 4294967296] : List Int)) (inner := [.int .u32 ((a0) % 4294967296), .int .u32 ((a0 / 4294967296) % 4294967296)]) (ok := fun _ => True) (okp := fun _ => True) ?hr ?hp (fun _ hk => hk) trivial (Below.refl _ _) (Nat.le_refl _) (by simp) ?_; (case hd => rfl); (case hg => rfl); (case hr => first | (go_simp; done) | (go_simp; rfl)); (case hp => exact (Reps.one (show Kd.M (Kd.int .u32) _ _ _ ((a0) % 4294967296) [.int .u32 ((a0) % 4294967296)] from rfl) (Reps.one (show Kd.M (Kd.int .u32) _ _ _ ((a0 / 4294967296) % 4294967296) [.int .u32 ((a0 / 4294967296) % 4294967296)] from rfl) (Reps.none _ _)))); intro v135 w6 ho7 hb hg_ hnew_; clear hg_ hnew_; (first | rw [← Ny134.out] at ho7 | (simp only [Int.reduceToNat] at ho7; rw [← Ny134.out] at ho7)); have HO136 := zA (Kd.R_lower ho7 (below_size zH)); replace HB := zA (below_step zH hb); clear hb ho7))
 go_ret
 exact ⟨_, zE, zR HO136.out, zH⟩

def bignat_divSmall.l0 : Nat → List Int → Int → List Int → Int → Int → Option (List Int × Int)
 | 0, _, _, _, _, _ => none
 | k + 1, x0, x1, x6, x7, x8 => if x8 ≥ 0 then (if 0 ≤ x8 then (if x8 < (x0.length : Int) then (if (IntKind.u64.wrap (x1)) = 0 then (none) else (if x8 < (x6.length : Int) then (bignat_divSmall.l0 k x0 x1 (x6.set (x8 : Int).toNat ((IntKind.u64.wrap (Int.tdiv (Go.bits .or .u64 (IntKind.u64.wrap (x7 * 4294967296)) (IntKind.u64.wrap (rd x0 x8))) (IntKind.u64.wrap (x1)))) % 4294967296)) (Int.tmod (Go.bits .or .u64 (IntKind.u64.wrap (x7 * 4294967296)) (IntKind.u64.wrap (rd x0 x8))) (IntKind.u64.wrap (x1))) (wrap64 (x8 - 1))) else (none))) else (none)) else (none)) else ((bignat_trim.f k x6).bind fun t142 => (some (t142, (x7) % 4294967296)))
def bignat_divSmall.f (k : Nat) (l0 : List Int) (a1 : Int) : Option (List Int × Int) := if 0 ≤ (l0.length : Int) then (if ((l0.length : Int) : Int).toNat ≤ 70368744177664 then (bignat_divSmall.l0 k l0 a1 (List.replicate ((l0.length : Int) : Int).toNat 0) 0 (wrap64 ((l0.length : Int) - 1))) else (none)) else (none)
theorem bignat_divSmall.mono_l : ∀ k, (∀ y0 y1 y2 y3 y4, LeO (bignat_divSmall.l0 k y0 y1 y2 y3 y4) (bignat_divSmall.l0 (k + 1) y0 y1 y2 y3 y4))
 | 0 => fun _ _ _ _ _ r h => by simp [bignat_divSmall.l0] at h
 | k + 1 => by
  have ih0 := bignat_divSmall.mono_l k
  intro y0 y1 y2 y3 y4
  unfold bignat_divSmall.l0
  exact zm2 ih0 bignat_trim.mono
theorem bignat_divSmall.mono : ∀ a0 a1 k, LeO (bignat_divSmall.f k a0 a1) (bignat_divSmall.f (k + 1) a0 a1) := by
 intro a0 a1 k;have ih0 := bignat_divSmall.mono_l k;unfold bignat_divSmall.f;exact zm2 ih0 bignat_trim.mono
set_option maxHeartbeats 8000000 in
set_option maxRecDepth 100000 in
theorem bignat_divSmall.calls (k : Nat) (A0 : Option Addr) (c0 : Nat) (l0 : List Int) (a1 : Int) (r1 : List Int) (r2 : Int) (w : World) (hr0 : Kd.C (Kd.int .u32) w A0 l0.length l0) (hc0 : l0.length ≤ c0) (h : bignat_divSmall.f k l0 a1 = some (r1, r2)) :
 Calls Tryd.prog 65 #[.slice A0 l0.length c0, .int .u32 a1] w fun e w' => ∃ v0_ : Value, e = .returned (.tuple #[v0_, .int .u32 r2]) ∧ Kd.R (Kd.int .u32) 37 w' w.heap.size (fun _ => True) v0_ r1 ∧ Below w.heap.size w w' := by
 have HR0 := zA hr0;have HC0 := zA hc0;clear hr0 hc0;have HB := zA (Below.refl w.heap.size w);have H : (if 0 ≤ (l0.length : Int) then (if ((l0.length : Int) : Int).toNat ≤ 70368744177664 then (bignat_divSmall.l0 k l0 a1 (List.replicate ((l0.length : Int) : Int).toNat 0) 0 (wrap64 ((l0.length : Int) - 1))) else (none)) else (none)) = some (r1, r2) := h;clear h;by_cases c3 : 0 ≤ (l0.length : Int)
 ·rw [if_pos c3] at H;have c3b0 := eq_true c3;have c3b1 := decide_eq_true c3;clear c3;by_cases c4 : ((l0.length : Int) : Int).toNat ≤ 70368744177664
  ·rw [if_pos c4] at H;have c4b0 := eq_true c4;have c4b1 := decide_eq_true c4;clear c4;obtain ⟨y137, hy137⟩ : ∃ y_ : List Int, y_ = (List.replicate ((l0.length : Int) : Int).toNat 0) := ⟨_, rfl⟩;replace H : (bignat_divSmall.l0 k l0 a1 y137 0 (wrap64 ((l0.length : Int) - 1))) = some (r1, r2) := zY hy137 H;have Ny137 := zA hy137;clear hy137;have H' := zA H;clear H;go_enter Tryd.func65, Tryd.ntmps65
   go_wp2_with (first | ((with_reducible refine gate_dst (N := 11) rfl ?_); refine Kd.R_make (Kd.int .u32) _ 37 rfl (N := 11) rfl 23 _ _ rfl (l0.length : Int) rfl rfl Tryd.underlying23 (.int .u32 0) 4 info37 rfl (by decide) (by omega) 0 (ok := fun _ => True) (okp := fun _ => True) rfl (fun _ hk => hk) trivial zD (Nat.le_trans (Nat.mul_le_mul_right _ (zD : (l0.length : Int).toNat ≤ 70368744177664)) (by omega)) (Below.refl _ _) (Nat.le_refl _) ?_; intro v138 w5 ho6 hb hg_ hnew_; clear hg_ hnew_; (first | rw [← Ny137.out] at ho6 | (simp only [Int.reduceToNat] at ho6; rw [← Ny137.out] at ho6)); have HO139 := zlo ho6 HB rfl; replace HB := zbb HB hb rfl; clear hb ho6))
   go_loopg [7, 8] k (fun kq v7 v8 w' => ∃ (x6_1 : List Int) (x7_1 : Int) (x8_1 : Int), v7 = .int .u64 x7_1 ∧ v8 = .int .i64 x8_1 ∧ Aside0 (bignat_divSmall.l0 kq l0 a1 x6_1 x7_1 x8_1 = some (r1, r2)) ∧ Aside0 (kq ≤ k) ∧ Aside0 (Kd.R (Kd.int .u32) 37 w' w.heap.size (fun _ => True) v138 x6_1) ∧ Aside0 (Below w.heap.size w w'))
   case atStart => exact ⟨(y137), (0), (wrap64 ((l0.length : Int) - 1)), zS, zS, H', ⟨Nat.le_refl _⟩, ⟨zR HO139.out⟩, ⟨zH⟩⟩
   case round =>
    clear H';obtain ⟨x6_1, x7_1, x8_1, rfl, rfl, HA, HK1, HO_6, HB⟩ := hrel;cases gk with
    | zero => exact absurd HA.out (by simp [bignat_divSmall.l0])
    | succ k1 =>
     have H := HA.out;clear HA;simp only [bignat_divSmall.l0] at H;by_cases c7 : x8_1 ≥ 0
     ·rw [if_pos c7] at H;have c7b0 : decide (0 ≤ x8_1) = true := decide_eq_true c7;clear c7;by_cases c8 : 0 ≤ x8_1
      ·rw [if_pos c8] at H;have c8b0 := decide_eq_true c8;clear c8;by_cases c9 : x8_1 < (l0.length : Int)
       ·rw [if_pos c9] at H;have c9b0 := decide_eq_true c9;clear c9;by_cases c10 : (IntKind.u64.wrap (a1)) = 0
        ·rw [if_pos c10] at H;cases H
        rw [if_neg c10] at H;have c10b0 := beq_eq_false_iff_ne.mpr c10;have c10b1 := bne_iff_ne.mpr c10;by_cases c11 : x8_1 < (x6_1.length : Int)
        ·rw [if_pos c11] at H;have c11b0 := decide_eq_true c11;clear c11;obtain ⟨y141, hy141⟩ : ∃ y_ : List Int, y_ = (x6_1.set (x8_1 : Int).toNat ((IntKind.u64.wrap (Int.tdiv (Go.bits .or .u64 (IntKind.u64.wrap (x7_1 * 4294967296)) (IntKind.u64.wrap (rd l0 x8_1))) (IntKind.u64.wrap (a1)))) % 4294967296)) := ⟨_, rfl⟩;replace H : (bignat_divSmall.l0 k1 l0 a1 y141 (Int.tmod (Go.bits .or .u64 (IntKind.u64.wrap (x7_1 * 4294967296)) (IntKind.u64.wrap (rd l0 x8_1))) (IntKind.u64.wrap (a1))) (wrap64 (x8_1 - 1))) = some (r1, r2) := zY hy141 H;have Ny141 := zA hy141;clear hy141;have H' := zA H;clear H;have p140 : 0 ≤ (x8_1 : Int) := zD;have q140 : x8_1 < (l0.length : Int) := zD;obtain ⟨ad140, e140, hx140_0⟩ := Kd.at_int HR0.out x8_1 p140 q140;cases e140;replace hx140_0 := (HB.out.cell (World.block_lt_of_cell? w _ hx140_0)).trans hx140_0;replace p140 := eq_true p140;replace q140 := eq_true q140;have p12 : 0 ≤ (x8_1 : Int) := zD;have q12 : (x8_1 : Int) < ((x6_1.length : Int) : Int) := zD;obtain ⟨go12, co12, eo12, gb12, gl12, cl12, HG12⟩ := Kd.R_form HO_6.out (by omega);(first | cases eo12 | (injection eo12 with ea_ en_ ec_; (first | subst ea_ | (injection ea_ with ea_; subst ea_)); subst ec_; clear en_));have GB12 := zA gb12;have GG12 := zA HG12;clear gb12 gl12 HG12;obtain ⟨hx12_0, hf12_0⟩ := Kd.R_celln 0 HO_6.out (x8_1 : Int) p12 q12;replace p12 := eq_true p12;replace q12 := eq_true q12;obtain ⟨hy13_, hz13_⟩ := Kd.R_celln 0 HO_6.out (x8_1 : Int) zD zD;have HP13 := Kd.R_putg HO_6.out (x8_1 : Int) ((IntKind.u64.wrap (Int.tdiv (Go.bits .or .u64 (IntKind.u64.wrap (x7_1 * 4294967296)) (IntKind.u64.wrap (rd l0 x8_1))) (IntKind.u64.wrap (a1)))) % 4294967296)
         go_wp2_with (first | ((with_reducible refine gate_store (t := 37) (p := 34) rfl ?_); refine store_event (t := 37) (p := 34) (v := ?vo_w14) (w1 := (wr.setCell ⟨go12, (x8_1 : Int).toNat, none⟩ (.int .u32 ((IntKind.u64.wrap (Int.tdiv (Go.bits .or .u64 (IntKind.u64.wrap (x7_1 * 4294967296)) (IntKind.u64.wrap (rd l0 x8_1))) (IntKind.u64.wrap (a1)))) % 4294967296)))) ?hg ?ho ?hn ?hr ?_; (case ho => rfl); (case hg => rfl); (case hn => rfl); (case hr => first | (go_simp; done) | (go_simp; rfl)); intro w14 hw; have hg : wr.grownBy w14 (some go12) := (by rw [hw]; exact HP13.2); have hp_ : Kd.R (Kd.int .u32) 37 w14 w.heap.size (fun _ => True) (.slice (some ⟨go12, 0, none⟩) x6_1.length co12) y141 := (by rw [hw, Ny141.out]; exact HP13.1); clear HP13; replace HO_6 := zA (hp_); replace HB := zA ((by rw [hw]; exact below_set (HB.out) GB12.out : Below w.heap.size w w14)); clear hg hw hp_))
         go_roundg k1
         case measure => have := HK1.out; omega
         case rel => exact ⟨(y141), (Int.tmod (Go.bits .or .u64 (IntKind.u64.wrap (x7_1 * 4294967296)) (IntKind.u64.wrap (rd l0 x8_1))) (IntKind.u64.wrap (a1))), (wrap64 (x8_1 - 1)), zS, zS, H', ⟨by have := HK1.out; omega⟩, ⟨zR HO_6.out⟩, ⟨zH⟩⟩
        rw [if_neg c11] at H;cases H
       rw [if_neg c9] at H;cases H
      rw [if_neg c8] at H;cases H
     rw [if_neg c7] at H;have c7b0 : decide (0 ≤ x8_1) = false := decide_eq_false c7;clear c7;obtain ⟨t142, A150, H⟩ := zi H;have A15 := zA A150;clear A150;simp only [Option.some.injEq, Prod.mk.injEq] at H;obtain ⟨rfl, rfl⟩ := H;obtain ⟨Ao16, co16, eo16⟩ := Kd.R_slice HO_6.out;subst eo16
     go_wp2_with (first | ((with_reducible refine gate_callee (f := 71) rfl ?_); refine goesL_ (some 40) rfl rfl Tryd.func71 zk rfl #[.slice Ao16 x6_1.length co16] rfl zX ?_; (with_reducible refine (bignat_trimO.calls k1 (fun k_ => some k_ = (.slice Ao16 x6_1.length co16 : Value).ownBlock) (.slice Ao16 x6_1.length co16) x6_1 t142 w _ ?side1 ?side2 A15.out).mono ?_); (case side1 => repeat (first | (with_reducible first | exact HB.out | apply below_alloc | apply pw_below_drewN | apply below_drew1) | exact HB.out)); (case side2 => exact Kd.R_tight rfl HO_6.out); rintro e w17 ⟨v143, rfl, ho0, hb, hkp⟩; refine ⟨_, rfl, ?_⟩; have HO144 := zA (Kd.R_mono (ok' := fun k_ => True) ho0 (fun k_ hk_ => trivial)); replace HB := zA (hb); clear HO_6; (try clear hkp)))
     go_ret2
     exact ⟨_, zE, zR HO144.out, zH⟩
  rw [if_neg c4] at H;cases H
 rw [if_neg c3] at H;cases H

def bignat_Cmp.l0 : Nat → List Int → List Int → Int → Option (Int)
 | 0, _, _, _ => none
 | k + 1, x0, x1, x5 => if x5 ≥ 0 then (if 0 ≤ x5 then (if x5 < (x0.length : Int) then (if x5 < (x1.length : Int) then (if (rd x0 x5) = (rd x1 x5) then (bignat_Cmp.l0 k x0 x1 (wrap64 (x5 - 1))) else (if (rd x0 x5) < (rd x1 x5) then (some (-1)) else (some 1))) else (none)) else (none)) else (none)) else (some 0)
def bignat_Cmp.f (k : Nat) (l0 : List Int) (l1 : List Int) : Option (Int) := (bignat_trim.f k l0).bind fun t145 => ((bignat_trim.f k l1).bind fun t148 => (if (t145.length : Int) < (t148.length : Int) then (some (-1)) else (if (t145.length : Int) > (t148.length : Int) then (some 1) else (bignat_Cmp.l0 k t145 t148 (wrap64 ((t145.length : Int) - 1))))))
theorem bignat_Cmp.mono_l : ∀ k, (∀ y0 y1 y2, LeO (bignat_Cmp.l0 k y0 y1 y2) (bignat_Cmp.l0 (k + 1) y0 y1 y2))
 | 0 => fun _ _ _ r h => by simp [bignat_Cmp.l0] at h
 | k + 1 => by
  have ih0 := bignat_Cmp.mono_l k
  intro y0 y1 y2
  unfold bignat_Cmp.l0
  exact zm2 ih0 bignat_trim.mono
theorem bignat_Cmp.mono : ∀ a0 a1 k, LeO (bignat_Cmp.f k a0 a1) (bignat_Cmp.f (k + 1) a0 a1) := by
 intro a0 a1 k;have ih0 := bignat_Cmp.mono_l k;unfold bignat_Cmp.f;exact zm2 ih0 bignat_trim.mono
set_option maxHeartbeats 8000000 in
set_option maxRecDepth 100000 in
theorem bignat_Cmp.calls (k : Nat) (A0 : Option Addr) (c0 : Nat) (l0 : List Int) (A1 : Option Addr) (c1 : Nat) (l1 : List Int) (r : Int) (w : World) (hr0 : Kd.C (Kd.int .u32) w A0 l0.length l0) (hc0 : l0.length ≤ c0) (hr1 : Kd.C (Kd.int .u32) w A1 l1.length l1) (hc1 : l1.length ≤ c1) (h : bignat_Cmp.f k l0 l1 = some r) :
 Calls Tryd.prog 67 #[.slice A0 l0.length c0, .slice A1 l1.length c1] w fun e w' => e = .returned (.int .i64 r) ∧ Below w.heap.size w w' := by
 have HR0 := zA hr0;have HC0 := zA hc0;clear hr0 hc0;have HR1 := zA hr1;have HC1 := zA hc1;clear hr1 hc1;have HB := zA (Below.refl w.heap.size w);have H : ((bignat_trim.f k l0).bind fun t145 => ((bignat_trim.f k l1).bind fun t148 => (if (t145.length : Int) < (t148.length : Int) then (some (-1)) else (if (t145.length : Int) > (t148.length : Int) then (some 1) else (bignat_Cmp.l0 k t145 t148 (wrap64 ((t145.length : Int) - 1))))))) = some r := h;clear h;obtain ⟨t145, A30, H⟩ := zi H;have A3 := zA A30;clear A30;obtain ⟨t148, A40, H⟩ := zi H;have A4 := zA A40;clear A40;by_cases c5 : (t145.length : Int) < (t148.length : Int)
 ·rw [if_pos c5] at H;have c5b0 := decide_eq_true c5;have c5b1 : decide (t145.length < t148.length) = true := decide_eq_true (Int.ofNat_lt.mp c5);clear c5;obtain rfl := Option.some.inj H;go_enter Tryd.func67, Tryd.ntmps67
  have M731_0 : Aside0 True := ⟨trivial⟩;have M731_1 : Aside0 True := ⟨trivial⟩
  go_wp2_with (first | (go_at_call 71; clear M731_0; (with_reducible refine (bignat_trim.calls k (fun k_ => k_ < w.heap.size) _ _ l0 t145 _ ?side1 A3.out).mono ?_); (case side1 => exact Kd.V_mk HC0.out (Kd.F_below (Kd.C_F (Kd.heap_int .u32) HR0.out) (zb HB rfl))); rintro e w6 ⟨v146, rfl, ho0, hb⟩; have HO147 := zvl ho0 HB rfl; replace HB := zbb HB hb rfl) | (go_at_call 71; clear M731_1; (with_reducible refine (bignat_trim.calls k (fun k_ => k_ < w.heap.size) _ _ l1 t148 _ ?side1 A4.out).mono ?_); (case side1 => exact Kd.V_mk HC1.out (Kd.F_below (Kd.C_F (Kd.heap_int .u32) HR1.out) (zb HB rfl))); rintro e w7 ⟨v149, rfl, ho0, hb⟩; replace HO147 := zA (Kd.V_below (zv HO147 rfl) hb); have HO150 := zvl ho0 HB rfl; replace HB := zbb HB hb rfl; obtain ⟨Ao8, co8, eo8⟩ := Kd.V_slice HO147.out; subst eo8; obtain ⟨Ao9, co9, eo9⟩ := Kd.V_slice HO150.out; subst eo9))
  repeat (go_quiet (fail); try go_wp2)
  go_ret
  exact ⟨zE, zH⟩
 rw [if_neg c5] at H;have c5b0 := decide_eq_false c5;have c5b1 : decide (t145.length < t148.length) = false := decide_eq_false (fun h => c5 (Int.ofNat_lt.mpr h));clear c5;by_cases c10 : (t145.length : Int) > (t148.length : Int)
 ·rw [if_pos c10] at H;have c10b0 : decide ((t148.length : Int) < (t145.length : Int)) = true := decide_eq_true c10;have c10b1 : decide (t148.length < t145.length) = true := decide_eq_true (Int.ofNat_lt.mp c10);clear c10;obtain rfl := Option.some.inj H;go_enter Tryd.func67, Tryd.ntmps67
  have M746_0 : Aside0 True := ⟨trivial⟩;have M746_1 : Aside0 True := ⟨trivial⟩
  go_wp2_with (first | (go_at_call 71; clear M746_0; (with_reducible refine (bignat_trim.calls k (fun k_ => k_ < w.heap.size) _ _ l0 t145 _ ?side1 A3.out).mono ?_); (case side1 => exact Kd.V_mk HC0.out (Kd.F_below (Kd.C_F (Kd.heap_int .u32) HR0.out) (zb HB rfl))); rintro e w11 ⟨v146, rfl, ho0, hb⟩; have HO147 := zvl ho0 HB rfl; replace HB := zbb HB hb rfl) | (go_at_call 71; clear M746_1; (with_reducible refine (bignat_trim.calls k (fun k_ => k_ < w.heap.size) _ _ l1 t148 _ ?side1 A4.out).mono ?_); (case side1 => exact Kd.V_mk HC1.out (Kd.F_below (Kd.C_F (Kd.heap_int .u32) HR1.out) (zb HB rfl))); rintro e w12 ⟨v149, rfl, ho0, hb⟩; replace HO147 := zA (Kd.V_below (zv HO147 rfl) hb); have HO150 := zvl ho0 HB rfl; replace HB := zbb HB hb rfl; obtain ⟨Ao13, co13, eo13⟩ := Kd.V_slice HO147.out; subst eo13; obtain ⟨Ao14, co14, eo14⟩ := Kd.V_slice HO150.out; subst eo14))
  repeat (go_quiet (fail); try go_wp2)
  go_ret
  exact ⟨zE, zH⟩
 rw [if_neg c10] at H;have c10b0 : decide ((t148.length : Int) < (t145.length : Int)) = false := decide_eq_false c10;have c10b1 : decide (t148.length < t145.length) = false := decide_eq_false (fun h => c10 (Int.ofNat_lt.mpr h));clear c10;have H' := zA H;clear H;go_enter Tryd.func67, Tryd.ntmps67
 have M757_0 : Aside0 True := ⟨trivial⟩;have M757_1 : Aside0 True := ⟨trivial⟩
 go_wp2_with (first | (go_at_call 71; clear M757_0; (with_reducible refine (bignat_trim.calls k (fun k_ => k_ < w.heap.size) _ _ l0 t145 _ ?side1 A3.out).mono ?_); (case side1 => exact Kd.V_mk HC0.out (Kd.F_below (Kd.C_F (Kd.heap_int .u32) HR0.out) (zb HB rfl))); rintro e w15 ⟨v146, rfl, ho0, hb⟩; have HO147 := zvl ho0 HB rfl; replace HB := zbb HB hb rfl) | (go_at_call 71; clear M757_1; (with_reducible refine (bignat_trim.calls k (fun k_ => k_ < w.heap.size) _ _ l1 t148 _ ?side1 A4.out).mono ?_); (case side1 => exact Kd.V_mk HC1.out (Kd.F_below (Kd.C_F (Kd.heap_int .u32) HR1.out) (zb HB rfl))); rintro e w16 ⟨v149, rfl, ho0, hb⟩; replace HO147 := zA (Kd.V_below (zv HO147 rfl) hb); have HO150 := zvl ho0 HB rfl; replace HB := zbb HB hb rfl; obtain ⟨Ao17, co17, eo17⟩ := Kd.V_slice HO147.out; subst eo17; obtain ⟨Ao18, co18, eo18⟩ := Kd.V_slice HO150.out; subst eo18))
 repeat (go_quiet (fail); try go_wp2)
 go_loopg [5] k (fun kq v5 w' => ∃ (x5_1 : Int), v5 = .int .i64 x5_1 ∧ Aside0 (bignat_Cmp.l0 kq t145 t148 x5_1 = some r) ∧ Aside0 (kq ≤ k) ∧ Aside0 (Kd.V (Kd.int .u32) 37 w' w.heap.size (fun _ => True) (.slice Ao17 t145.length co17) t145) ∧ Aside0 (Kd.V (Kd.int .u32) 37 w' w.heap.size (fun _ => True) (.slice Ao18 t148.length co18) t148) ∧ Aside0 (Below w.heap.size w w'))
 case atStart => exact ⟨(wrap64 ((t145.length : Int) - 1)), zS, H', ⟨Nat.le_refl _⟩, ⟨zV HO147.out⟩, ⟨zV HO150.out⟩, ⟨zH⟩⟩
 case round =>
  clear H';obtain ⟨x5_1, rfl, HA, HK1, HO_0, HO_1, HB⟩ := hrel;cases gk with
  | zero => exact absurd HA.out (by simp [bignat_Cmp.l0])
  | succ k1 =>
   have H := HA.out;clear HA;simp only [bignat_Cmp.l0] at H;by_cases c19 : x5_1 ≥ 0
   ·rw [if_pos c19] at H;have c19b0 : decide (0 ≤ x5_1) = true := decide_eq_true c19;clear c19;by_cases c20 : 0 ≤ x5_1
    ·rw [if_pos c20] at H;have c20b0 := decide_eq_true c20;clear c20;by_cases c21 : x5_1 < (t145.length : Int)
     ·rw [if_pos c21] at H;have c21b0 := decide_eq_true c21;clear c21;by_cases c22 : x5_1 < (t148.length : Int)
      ·rw [if_pos c22] at H;have c22b0 := decide_eq_true c22;clear c22;by_cases c23 : (rd t145 x5_1) = (rd t148 x5_1)
       ·rw [if_pos c23] at H;have c23b0 := beq_iff_eq.mpr c23;have c23b1 := bne_eq_false_iff_eq.mpr c23;clear c23;have H' := zA H;clear H;have p151 : 0 ≤ (x5_1 : Int) := zD;have q151 : x5_1 < (t145.length : Int) := zD;obtain ⟨ad151, e151, hx151_0⟩ := Kd.at_int (Kd.V_reads' HO_0.out).2.2 x5_1 p151 q151;cases e151;replace p151 := eq_true p151;replace q151 := eq_true q151;have p152 : 0 ≤ (x5_1 : Int) := zD;have q152 : x5_1 < (t148.length : Int) := zD;obtain ⟨ad152, e152, hx152_0⟩ := Kd.at_int (Kd.V_reads' HO_1.out).2.2 x5_1 p152 q152;cases e152;replace p152 := eq_true p152;replace q152 := eq_true q152
        go_wp2
        repeat (go_quiet (fail); try go_wp2)
        go_roundg k1
        case measure => have := HK1.out; omega
        case rel => exact ⟨(wrap64 (x5_1 - 1)), zS, H', ⟨by have := HK1.out; omega⟩, ⟨zV HO_0.out⟩, ⟨zV HO_1.out⟩, ⟨zH⟩⟩
       rw [if_neg c23] at H;have c23b0 := beq_eq_false_iff_ne.mpr c23;have c23b1 := bne_iff_ne.mpr c23;by_cases c24 : (rd t145 x5_1) < (rd t148 x5_1)
       ·rw [if_pos c24] at H;have c24b0 := decide_eq_true c24;clear c24;obtain rfl := Option.some.inj H;have p151 : 0 ≤ (x5_1 : Int) := zD;have q151 : x5_1 < (t145.length : Int) := zD;obtain ⟨ad151, e151, hx151_0⟩ := Kd.at_int (Kd.V_reads' HO_0.out).2.2 x5_1 p151 q151;cases e151;replace p151 := eq_true p151;replace q151 := eq_true q151;have p152 : 0 ≤ (x5_1 : Int) := zD;have q152 : x5_1 < (t148.length : Int) := zD;obtain ⟨ad152, e152, hx152_0⟩ := Kd.at_int (Kd.V_reads' HO_1.out).2.2 x5_1 p152 q152;cases e152;replace p152 := eq_true p152;replace q152 := eq_true q152;have p153 : 0 ≤ (x5_1 : Int) := zD;have q153 : x5_1 < (t145.length : Int) := zD;obtain ⟨ad153, e153, hx153_0⟩ := Kd.at_int (Kd.V_reads' HO_0.out).2.2 x5_1 p153 q153;obtain rfl : ad151 = ad153 := (by injection e153);replace p153 := eq_true p153;replace q153 := eq_true q153;have p154 : 0 ≤ (x5_1 : Int) := zD;have q154 : x5_1 < (t148.length : Int) := zD;obtain ⟨ad154, e154, hx154_0⟩ := Kd.at_int (Kd.V_reads' HO_1.out).2.2 x5_1 p154 q154;obtain rfl : ad152 = ad154 := (by injection e154);replace p154 := eq_true p154;replace q154 := eq_true q154
        go_wp2
        repeat (go_quiet (fail); try go_wp2)
        go_ret
        exact ⟨zE, zH⟩
       rw [if_neg c24] at H;have c24b0 := decide_eq_false c24;clear c24;obtain rfl := Option.some.inj H;have p151 : 0 ≤ (x5_1 : Int) := zD;have q151 : x5_1 < (t145.length : Int) := zD;obtain ⟨ad151, e151, hx151_0⟩ := Kd.at_int (Kd.V_reads' HO_0.out).2.2 x5_1 p151 q151;cases e151;replace p151 := eq_true p151;replace q151 := eq_true q151;have p152 : 0 ≤ (x5_1 : Int) := zD;have q152 : x5_1 < (t148.length : Int) := zD;obtain ⟨ad152, e152, hx152_0⟩ := Kd.at_int (Kd.V_reads' HO_1.out).2.2 x5_1 p152 q152;cases e152;replace p152 := eq_true p152;replace q152 := eq_true q152;have p153 : 0 ≤ (x5_1 : Int) := zD;have q153 : x5_1 < (t145.length : Int) := zD;obtain ⟨ad153, e153, hx153_0⟩ := Kd.at_int (Kd.V_reads' HO_0.out).2.2 x5_1 p153 q153;obtain rfl : ad151 = ad153 := (by injection e153);replace p153 := eq_true p153;replace q153 := eq_true q153;have p154 : 0 ≤ (x5_1 : Int) := zD;have q154 : x5_1 < (t148.length : Int) := zD;obtain ⟨ad154, e154, hx154_0⟩ := Kd.at_int (Kd.V_reads' HO_1.out).2.2 x5_1 p154 q154;obtain rfl : ad152 = ad154 := (by injection e154);replace p154 := eq_true p154;replace q154 := eq_true q154
       go_wp2
       repeat (go_quiet (fail); try go_wp2)
       go_ret
       exact ⟨zE, zH⟩
      rw [if_neg c22] at H;cases H
     rw [if_neg c21] at H;cases H
    rw [if_neg c20] at H;cases H
   rw [if_neg c19] at H;have c19b0 : decide (0 ≤ x5_1) = false := decide_eq_false c19;clear c19;obtain rfl := Option.some.inj H
   go_wp2
   repeat (go_quiet (fail); try go_wp2)
   go_ret
   exact ⟨zE, zH⟩

end Go.Proofs.YtoeldfopjalpkaaDoor.Q

