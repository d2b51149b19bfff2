/- Lemmas for the proof of one law of this seat (Qx19). -/
import Derived.Test.YtoeldfopjalpkaaDoorZRationalTextQx18
namespace Go.Proofs.YtoeldfopjalpkaaDoor.Q
open Go.RowKit Go.Proofs.YtoeldfopjalpkaaDoorW.PrintWords Go.Proofs.YtoeldfopjalpkaaDoorW.PrintLast Go.Proofs.YtoeldfopjalpkaaDoorW.PrintMore
attribute [local go_sem] max2_int min2_int max_two min_two max_three min_three max_four min_four   -- for this text's walks alone
set_option linter.unusedVariables false
set_option linter.unusedSimpArgs false

mutual
def credenceref1_NatAdd.l0 : Nat → List Int → List Int → List Int → Int → Int → Option (List Int)
 | 0, _, _, _, _, _ => none
 | k + 1, x0, x1, x5, x6, x7 => if x7 < (x0.length : Int) then (credenceref1_NatAdd.j1 k x0 x1 x5 x6 x7 true) else (credenceref1_NatAdd.j1 k x0 x1 x5 x6 x7 (decide (x7 < (x1.length : Int))))
def credenceref1_NatAdd.j1 : Nat → List Int → List Int → List Int → Int → Int → Bool → Option (List Int)
 | 0, _, _, _, _, _, _ => none
 | k + 1, x0, x1, x5, x6, x7, x17 => if x17 = true then (if x7 < (x0.length : Int) then (if 0 ≤ x7 then (if x7 < (x1.length : Int) then (if x5.length < 35184372088832 then (credenceref1_NatAdd.l0 k x0 x1 (x5 ++ [(IntKind.u64.wrap ((IntKind.u64.wrap (x6 + (IntKind.u64.wrap (rd x0 x7)))) + (IntKind.u64.wrap (rd x1 x7)))) % 4294967296]) ((IntKind.u64.wrap ((IntKind.u64.wrap (x6 + (IntKind.u64.wrap (rd x0 x7)))) + (IntKind.u64.wrap (rd x1 x7)))) / 4294967296) (wrap64 (x7 + 1))) else (none)) else (if x5.length < 35184372088832 then (credenceref1_NatAdd.l0 k x0 x1 (x5 ++ [(IntKind.u64.wrap (x6 + (IntKind.u64.wrap (rd x0 x7)))) % 4294967296]) ((IntKind.u64.wrap (x6 + (IntKind.u64.wrap (rd x0 x7)))) / 4294967296) (wrap64 (x7 + 1))) else (none))) else (none)) else (if x7 < (x1.length : Int) then (if 0 ≤ x7 then (if x5.length < 35184372088832 then (credenceref1_NatAdd.l0 k x0 x1 (x5 ++ [(IntKind.u64.wrap (x6 + (IntKind.u64.wrap (rd x1 x7)))) % 4294967296]) ((IntKind.u64.wrap (x6 + (IntKind.u64.wrap (rd x1 x7)))) / 4294967296) (wrap64 (x7 + 1))) else (none)) else (none)) else (if x5.length < 35184372088832 then (credenceref1_NatAdd.l0 k x0 x1 (x5 ++ [(x6) % 4294967296]) (x6 / 4294967296) (wrap64 (x7 + 1))) else (none)))) else (if x5.length < 35184372088832 then ((credenceref1_NatNorm.f k (x5 ++ [(x6) % 4294967296])).bind fun t864 => (some t864)) else (none))
end
def credenceref1_NatAdd.f (k : Nat) (l0 : List Int) (l1 : List Int) : Option (List Int) := credenceref1_NatAdd.l0 k l0 l1 ([] : List Int) 0 0
set_option maxHeartbeats 8000000 in
set_option maxRecDepth 100000 in
theorem credenceref1_NatAdd.calls (k : Nat) (A0 : Option Addr) (c0 : Nat) (l0 : List Int) (A1 : Option Addr) (c1 : Nat) (l1 : List Int) (r : List Int) (w : World) (hr0 : Kd.C (Kd.int .u32) w A0 l0.length l0) (hc0 : l0.length ≤ c0) (hr1 : Kd.C (Kd.int .u32) w A1 l1.length l1) (hc1 : l1.length ≤ c1) (h : credenceref1_NatAdd.f k l0 l1 = some r) :
 Calls Tryd.prog 73 #[.slice A0 l0.length c0, .slice A1 l1.length c1] w fun e w' => ∃ v0_ : Value, e = .returned (v0_) ∧ Kd.R (Kd.int .u32) 37 w' w.heap.size (fun _ => True) v0_ r ∧ Below w.heap.size w w' := by
 have HR0 := zA hr0;have HC0 := zA hc0;clear hr0 hc0;have HR1 := zA hr1;have HC1 := zA hc1;clear hr1 hc1;have HB := zA (Below.refl w.heap.size w);have H : (credenceref1_NatAdd.l0 k l0 l1 ([] : List Int) 0 0) = some r := h;clear h;have H' := zA H;clear H;go_enter Tryd.func73, Tryd.ntmps73
 go_wp2
 go_loopg [5, 6, 7] k (fun kq v5 v6 v7 w' => ∃ (x5_1 : List Int) (x6_1 : Int) (x7_1 : Int), v6 = .int .u64 x6_1 ∧ v7 = .int .i64 x7_1 ∧ Aside0 (credenceref1_NatAdd.l0 kq l0 l1 x5_1 x6_1 x7_1 = some r) ∧ Aside0 (kq ≤ k) ∧ Aside0 (Kd.R (Kd.int .u32) 37 w' w.heap.size (fun _ => True) v5 x5_1) ∧ Aside0 (Below w.heap.size w w'))
 case atStart => exact ⟨(([] : List Int)), (0), (0), zS, zS, H', ⟨Nat.le_refl _⟩, ⟨by first | exact Kd.R_nil _ _ _ _ _ | exact Kd.V_nil _ _ _ _ _⟩, ⟨zH⟩⟩
 case round =>
  clear H';obtain ⟨x5_1, x6_1, x7_1, rfl, rfl, HA, HK1, HO_5, HB⟩ := hrel;cases gk with
  | zero => exact absurd HA.out (by simp [credenceref1_NatAdd.l0])
  | succ k1 =>
   have H := HA.out;clear HA;simp only [credenceref1_NatAdd.l0] at H;have HC3 := zA H;clear H
   go_upto_region 4 with (fail)
   go_cut [17] (fun v17 wc => ∃ (kq : Nat) (x17_2 : Bool), v17 = .bool x17_2 ∧ Aside0 (credenceref1_NatAdd.j1 kq l0 l1 x5_1 x6_1 x7_1 x17_2 = some r) ∧ Aside0 (kq ≤ k1) ∧ Aside0 (Kd.R (Kd.int .u32) 37 wc w.heap.size (fun _ => True) u5 x5_1) ∧ Aside0 (Below w.heap.size w wc))
   case first =>
    have H := HC3.out;clear HC3;by_cases c4 : x7_1 < (l0.length : Int)
    ·rw [if_pos c4] at H;have c4b0 := decide_eq_true c4;clear c4;(first | rw [c4b0] | rw [c4b1] | (simp only [i64_w, i32_w]; rw [c4b0]) | skip);have H' := zA H;clear H
     go_wp2
     go_meet
     case rel => exact ⟨_, (true), zS, H', ⟨by have := HK1.out; first | omega | exact Nat.le_refl _⟩, ⟨zR HO_5.out⟩, ⟨zH⟩⟩
    rw [if_neg c4] at H;have c4b0 := decide_eq_false c4;clear c4;(first | rw [c4b0] | rw [c4b1] | (simp only [i64_w, i32_w]; rw [c4b0]) | skip);have H' := zA H;clear H
    go_wp2
    go_meet
    case rel => exact ⟨_, (decide (x7_1 < (l1.length : Int))), zS, H', ⟨by have := HK1.out; first | omega | exact Nat.le_refl _⟩, ⟨zR HO_5.out⟩, ⟨zH⟩⟩
   case rest =>
    clear HC3;obtain ⟨kq, x17_2, rfl, HA, HJ2, HO_5, HB⟩ := hcut;cases kq with
    | zero => exact absurd HA.out (by simp [credenceref1_NatAdd.j1])
    | succ kj2 =>
     have H := HA.out;clear HA;simp only [credenceref1_NatAdd.j1] at H;by_cases c5 : x17_2 = true
     ·subst c5;have H1 : (if x7_1 < (l0.length : Int) then (if 0 ≤ x7_1 then (if x7_1 < (l1.length : Int) then (if x5_1.length < 35184372088832 then (credenceref1_NatAdd.l0 kj2 l0 l1 (x5_1 ++ [(IntKind.u64.wrap ((IntKind.u64.wrap (x6_1 + (IntKind.u64.wrap (rd l0 x7_1)))) + (IntKind.u64.wrap (rd l1 x7_1)))) % 4294967296]) ((IntKind.u64.wrap ((IntKind.u64.wrap (x6_1 + (IntKind.u64.wrap (rd l0 x7_1)))) + (IntKind.u64.wrap (rd l1 x7_1)))) / 4294967296) (wrap64 (x7_1 + 1))) else (none)) else (if x5_1.length < 35184372088832 then (credenceref1_NatAdd.l0 kj2 l0 l1 (x5_1 ++ [(IntKind.u64.wrap (x6_1 + (IntKind.u64.wrap (rd l0 x7_1)))) % 4294967296]) ((IntKind.u64.wrap (x6_1 + (IntKind.u64.wrap (rd l0 x7_1)))) / 4294967296) (wrap64 (x7_1 + 1))) else (none))) else (none)) else (if x7_1 < (l1.length : Int) then (if 0 ≤ x7_1 then (if x5_1.length < 35184372088832 then (credenceref1_NatAdd.l0 kj2 l0 l1 (x5_1 ++ [(IntKind.u64.wrap (x6_1 + (IntKind.u64.wrap (rd l1 x7_1)))) % 4294967296]) ((IntKind.u64.wrap (x6_1 + (IntKind.u64.wrap (rd l1 x7_1)))) / 4294967296) (wrap64 (x7_1 + 1))) else (none)) else (none)) else (if x5_1.length < 35184372088832 then (credenceref1_NatAdd.l0 kj2 l0 l1 (x5_1 ++ [(x6_1) % 4294967296]) (x6_1 / 4294967296) (wrap64 (x7_1 + 1))) else (none)))) = some r := by rw [if_pos rfl] at H; exact H
      clear H;have H := H1;clear H1;by_cases c6 : x7_1 < (l0.length : Int)
      ·rw [if_pos c6] at H;have c6b0 := decide_eq_true c6;clear c6;by_cases c7 : 0 ≤ x7_1
       ·rw [if_pos c7] at H;have c7b0 := decide_eq_true c7;clear c7;by_cases c8 : x7_1 < (l1.length : Int)
        ·rw [if_pos c8] at H;have c8b0 := decide_eq_true c8;clear c8;by_cases c9 : x5_1.length < 35184372088832
         ·rw [if_pos c9] at H;have LMc9 := zA c9;clear c9;obtain ⟨y869, hy869⟩ : ∃ y_ : List Int, y_ = (x5_1 ++ [(IntKind.u64.wrap ((IntKind.u64.wrap (x6_1 + (IntKind.u64.wrap (rd l0 x7_1)))) + (IntKind.u64.wrap (rd l1 x7_1)))) % 4294967296]) := ⟨_, rfl⟩;replace H : (credenceref1_NatAdd.l0 kj2 l0 l1 y869 ((IntKind.u64.wrap ((IntKind.u64.wrap (x6_1 + (IntKind.u64.wrap (rd l0 x7_1)))) + (IntKind.u64.wrap (rd l1 x7_1)))) / 4294967296) (wrap64 (x7_1 + 1))) = some r := zY hy869 H;have Ny869 := zA hy869;clear hy869;have H' := zA H;clear H;have p867 : 0 ≤ (x7_1 : Int) := zD;have q867 : x7_1 < (l0.length : Int) := zD;obtain ⟨ad867, e867, hx867_0⟩ := Kd.at_int HR0.out x7_1 p867 q867;cases e867;replace hx867_0 := (HB.out.cell (World.block_lt_of_cell? w _ hx867_0)).trans hx867_0;replace p867 := eq_true p867;replace q867 := eq_true q867;have p868 : 0 ≤ (x7_1 : Int) := zD;have q868 : x7_1 < (l1.length : Int) := zD;obtain ⟨ad868, e868, hx868_0⟩ := Kd.at_int HR1.out x7_1 p868 q868;cases e868;replace hx868_0 := (HB.out.cell (World.block_lt_of_cell? w _ hx868_0)).trans hx868_0;replace p868 := eq_true p868;replace q868 := eq_true q868
          go_wp2_with (first | ((with_reducible refine gate_builtin (b := .append) (xs := #[.tmp 42, .tmp 45]) rfl ?_); (try (refine gate_guard (by rfl) ?_; dsimp only)); at_builtin; refine Kd.R_append (Kd.int .u32) (w0 := w) w.heap.size rfl (.tmp 42) (.tmp 45) 23 37 (.int .u32 0) 4 rfl Tryd.underlying23 info37 rfl (by decide) (by omega) u5 x5_1 ((IntKind.u64.wrap ((IntKind.u64.wrap (x6_1 + (IntKind.u64.wrap (rd l0 x7_1)))) + (IntKind.u64.wrap (rd l1 x7_1)))) % 4294967296) [.int .u32 ((IntKind.u64.wrap ((IntKind.u64.wrap (x6_1 + (IntKind.u64.wrap (rd l0 x7_1)))) + (IntKind.u64.wrap (rd l1 x7_1)))) % 4294967296)] (fun _ => True) (fun _ => False) rfl rfl ?aP (fun _ hk => hk.elim) ?aF ?aO ?aB ?aS ?aL ?_; (case aP => exact rfl); (case aB => exact zH); (case aF => exact (fun _ _ => trivial)); (case aO => exact (zR HO_5.out)); (case aS => exact (below_size zH)); (case aL => have := LMc9.out; omega); intro v870 w10 ho hb hg hat; rw [← Ny869.out] at ho; replace HB := zA (hb); have HO871 := zA (ho); clear HO_5; clear ho hb hg hat))
          go_roundg kj2
          case measure => have := HK1.out; have := HJ2.out; omega
          case rel => exact ⟨(y869), ((IntKind.u64.wrap ((IntKind.u64.wrap (x6_1 + (IntKind.u64.wrap (rd l0 x7_1)))) + (IntKind.u64.wrap (rd l1 x7_1)))) / 4294967296), (wrap64 (x7_1 + 1)), zS, zS, H', ⟨by have := HK1.out; have := HJ2.out; omega⟩, ⟨zR HO871.out⟩, ⟨zH⟩⟩
         rw [if_neg c9] at H;cases H
        rw [if_neg c8] at H;have c8b0 := decide_eq_false c8;clear c8;by_cases c11 : x5_1.length < 35184372088832
        ·rw [if_pos c11] at H;have LMc11 := zA c11;clear c11;obtain ⟨y872, hy872⟩ : ∃ y_ : List Int, y_ = (x5_1 ++ [(IntKind.u64.wrap (x6_1 + (IntKind.u64.wrap (rd l0 x7_1)))) % 4294967296]) := ⟨_, rfl⟩;replace H : (credenceref1_NatAdd.l0 kj2 l0 l1 y872 ((IntKind.u64.wrap (x6_1 + (IntKind.u64.wrap (rd l0 x7_1)))) / 4294967296) (wrap64 (x7_1 + 1))) = some r := zY hy872 H;have Ny872 := zA hy872;clear hy872;have H' := zA H;clear H;have p867 : 0 ≤ (x7_1 : Int) := zD;have q867 : x7_1 < (l0.length : Int) := zD;obtain ⟨ad867, e867, hx867_0⟩ := Kd.at_int HR0.out x7_1 p867 q867;cases e867;replace hx867_0 := (HB.out.cell (World.block_lt_of_cell? w _ hx867_0)).trans hx867_0;replace p867 := eq_true p867;replace q867 := eq_true q867
         go_wp2_with (first | ((with_reducible refine gate_builtin (b := .append) (xs := #[.tmp 42, .tmp 45]) rfl ?_); (try (refine gate_guard (by rfl) ?_; dsimp only)); at_builtin; refine Kd.R_append (Kd.int .u32) (w0 := w) w.heap.size rfl (.tmp 42) (.tmp 45) 23 37 (.int .u32 0) 4 rfl Tryd.underlying23 info37 rfl (by decide) (by omega) u5 x5_1 ((IntKind.u64.wrap (x6_1 + (IntKind.u64.wrap (rd l0 x7_1)))) % 4294967296) [.int .u32 ((IntKind.u64.wrap (x6_1 + (IntKind.u64.wrap (rd l0 x7_1)))) % 4294967296)] (fun _ => True) (fun _ => False) rfl rfl ?aP (fun _ hk => hk.elim) ?aF ?aO ?aB ?aS ?aL ?_; (case aP => exact rfl); (case aB => exact zH); (case aF => exact (fun _ _ => trivial)); (case aO => exact (zR HO_5.out)); (case aS => exact (below_size zH)); (case aL => have := LMc11.out; omega); intro v873 w12 ho hb hg hat; rw [← Ny872.out] at ho; replace HB := zA (hb); have HO874 := zA (ho); clear HO_5; clear ho hb hg hat))
         go_roundg kj2
         case measure => have := HK1.out; have := HJ2.out; omega
         case rel => exact ⟨(y872), ((IntKind.u64.wrap (x6_1 + (IntKind.u64.wrap (rd l0 x7_1)))) / 4294967296), (wrap64 (x7_1 + 1)), zS, zS, H', ⟨by have := HK1.out; have := HJ2.out; omega⟩, ⟨zR HO874.out⟩, ⟨zH⟩⟩
        rw [if_neg c11] at H;cases H
       rw [if_neg c7] at H;cases H
      rw [if_neg c6] at H;have c6b0 := decide_eq_false c6;clear c6;by_cases c13 : x7_1 < (l1.length : Int)
      ·rw [if_pos c13] at H;have c13b0 := decide_eq_true c13;clear c13;by_cases c14 : 0 ≤ x7_1
       ·rw [if_pos c14] at H;have c14b0 := decide_eq_true c14;clear c14;by_cases c15 : x5_1.length < 35184372088832
        ·rw [if_pos c15] at H;have LMc15 := zA c15;clear c15;obtain ⟨y876, hy876⟩ : ∃ y_ : List Int, y_ = (x5_1 ++ [(IntKind.u64.wrap (x6_1 + (IntKind.u64.wrap (rd l1 x7_1)))) % 4294967296]) := ⟨_, rfl⟩;replace H : (credenceref1_NatAdd.l0 kj2 l0 l1 y876 ((IntKind.u64.wrap (x6_1 + (IntKind.u64.wrap (rd l1 x7_1)))) / 4294967296) (wrap64 (x7_1 + 1))) = some r := zY hy876 H;have Ny876 := zA hy876;clear hy876;have H' := zA H;clear H;have p875 : 0 ≤ (x7_1 : Int) := zD;have q875 : x7_1 < (l1.length : Int) := zD;obtain ⟨ad875, e875, hx875_0⟩ := Kd.at_int HR1.out x7_1 p875 q875;cases e875;replace hx875_0 := (HB.out.cell (World.block_lt_of_cell? w _ hx875_0)).trans hx875_0;replace p875 := eq_true p875;replace q875 := eq_true q875
         go_wp2_with (first | ((with_reducible refine gate_builtin (b := .append) (xs := #[.tmp 42, .tmp 45]) rfl ?_); (try (refine gate_guard (by rfl) ?_; dsimp only)); at_builtin; refine Kd.R_append (Kd.int .u32) (w0 := w) w.heap.size rfl (.tmp 42) (.tmp 45) 23 37 (.int .u32 0) 4 rfl Tryd.underlying23 info37 rfl (by decide) (by omega) u5 x5_1 ((IntKind.u64.wrap (x6_1 + (IntKind.u64.wrap (rd l1 x7_1)))) % 4294967296) [.int .u32 ((IntKind.u64.wrap (x6_1 + (IntKind.u64.wrap (rd l1 x7_1)))) % 4294967296)] (fun _ => True) (fun _ => False) rfl rfl ?aP (fun _ hk => hk.elim) ?aF ?aO ?aB ?aS ?aL ?_; (case aP => exact rfl); (case aB => exact zH); (case aF => exact (fun _ _ => trivial)); (case aO => exact (zR HO_5.out)); (case aS => exact (below_size zH)); (case aL => have := LMc15.out; omega); intro v877 w16 ho hb hg hat; rw [← Ny876.out] at ho; replace HB := zA (hb); have HO878 := zA (ho); clear HO_5; clear ho hb hg hat))
         go_roundg kj2
         case measure => have := HK1.out; have := HJ2.out; omega
         case rel => exact ⟨(y876), ((IntKind.u64.wrap (x6_1 + (IntKind.u64.wrap (rd l1 x7_1)))) / 4294967296), (wrap64 (x7_1 + 1)), zS, zS, H', ⟨by have := HK1.out; have := HJ2.out; omega⟩, ⟨zR HO878.out⟩, ⟨zH⟩⟩
        rw [if_neg c15] at H;cases H
       rw [if_neg c14] at H;cases H
      rw [if_neg c13] at H;have c13b0 := decide_eq_false c13;clear c13;by_cases c17 : x5_1.length < 35184372088832
      ·rw [if_pos c17] at H;have LMc17 := zA c17;clear c17;obtain ⟨y879, hy879⟩ : ∃ y_ : List Int, y_ = (x5_1 ++ [(x6_1) % 4294967296]) := ⟨_, rfl⟩;replace H : (credenceref1_NatAdd.l0 kj2 l0 l1 y879 (x6_1 / 4294967296) (wrap64 (x7_1 + 1))) = some r := zY hy879 H;have Ny879 := zA hy879;clear hy879;have H' := zA H;clear H
       go_wp2_with (first | ((with_reducible refine gate_builtin (b := .append) (xs := #[.tmp 42, .tmp 45]) rfl ?_); (try (refine gate_guard (by rfl) ?_; dsimp only)); at_builtin; refine Kd.R_append (Kd.int .u32) (w0 := w) w.heap.size rfl (.tmp 42) (.tmp 45) 23 37 (.int .u32 0) 4 rfl Tryd.underlying23 info37 rfl (by decide) (by omega) u5 x5_1 ((x6_1) % 4294967296) [.int .u32 ((x6_1) % 4294967296)] (fun _ => True) (fun _ => False) rfl rfl ?aP (fun _ hk => hk.elim) ?aF ?aO ?aB ?aS ?aL ?_; (case aP => exact rfl); (case aB => exact zH); (case aF => exact (fun _ _ => trivial)); (case aO => exact (zR HO_5.out)); (case aS => exact (below_size zH)); (case aL => have := LMc17.out; omega); intro v880 w18 ho hb hg hat; rw [← Ny879.out] at ho; replace HB := zA (hb); have HO881 := zA (ho); clear HO_5; clear ho hb hg hat))
       go_roundg kj2
       case measure => have := HK1.out; have := HJ2.out; omega
       case rel => exact ⟨(y879), (x6_1 / 4294967296), (wrap64 (x7_1 + 1)), zS, zS, H', ⟨by have := HK1.out; have := HJ2.out; omega⟩, ⟨zR HO881.out⟩, ⟨zH⟩⟩
      rw [if_neg c17] at H;cases H
     replace c5 := Bool.eq_false_iff.mpr c5;subst c5;have H1 : (if x5_1.length < 35184372088832 then ((credenceref1_NatNorm.f kj2 (x5_1 ++ [(x6_1) % 4294967296])).bind fun t864 => (some t864)) else (none)) = some r := by rw [if_neg (show ¬ (false = true) by decide)] at H; exact H
     clear H;have H := H1;clear H1;by_cases c19 : x5_1.length < 35184372088832
     ·rw [if_pos c19] at H;have LMc19 := zA c19;clear c19;obtain ⟨y861, hy861⟩ : ∃ y_ : List Int, y_ = (x5_1 ++ [(x6_1) % 4294967296]) := ⟨_, rfl⟩;replace H : ((credenceref1_NatNorm.f kj2 y861).bind fun t864 => (some t864)) = some r := zY hy861 H;have Ny861 := zA hy861;clear hy861;obtain ⟨t864, A200, H⟩ := zi H;have A20 := zA A200;clear A200;obtain rfl := Option.some.inj H
      go_wp2_with (first | ((with_reducible refine gate_builtin (b := .append) (xs := #[.tmp 49, .tmp 52]) rfl ?_); (try (refine gate_guard (by rfl) ?_; dsimp only)); at_builtin; refine Kd.R_append (Kd.int .u32) (w0 := w) w.heap.size rfl (.tmp 49) (.tmp 52) 23 37 (.int .u32 0) 4 rfl Tryd.underlying23 info37 rfl (by decide) (by omega) u5 x5_1 ((x6_1) % 4294967296) [.int .u32 ((x6_1) % 4294967296)] (fun _ => True) (fun _ => False) rfl rfl ?aP (fun _ hk => hk.elim) ?aF ?aO ?aB ?aS ?aL ?_; (case aP => exact rfl); (case aB => exact zH); (case aF => exact (fun _ _ => trivial)); (case aO => exact (zR HO_5.out)); (case aS => exact (below_size zH)); (case aL => have := LMc19.out; omega); intro v862 w21 ho hb hg hat; rw [← Ny861.out] at ho; replace HB := zA (hb); have HO863 := zA (ho); clear HO_5; clear ho hb hg hat; obtain ⟨Ao22, co22, eo22⟩ := Kd.R_slice HO863.out; subst eo22) | ((with_reducible refine gate_callee (f := 87) rfl ?_); refine goesL_ (some 54) rfl rfl Tryd.func87 zk rfl #[.slice Ao22 y861.length co22] rfl zX ?_; (with_reducible refine (credenceref1_NatNorm.calls kj2 _ _ y861 t864 _ ?side1 ?side2 A20.out).mono ?_); (case side1 => exact zC (Kd.R_reads' HO863.out).2.2); (case side2 => exact (Kd.R_reads' HO863.out).2.1); rintro e w23 ⟨v865, rfl, ho0, hb⟩; refine ⟨_, rfl, ?_⟩; have HO866 := zA (Kd.R_lower (zN ho0 HO863 rfl) (below_size (zb HB rfl))); replace HO863 := zre HO863 hb ho0 rfl; replace HB := zbb HB hb rfl))
      go_ret
      exact ⟨_, zE, zRM HO866.out (fun _ hk => trivial), zH⟩
     rw [if_neg c19] at H;cases H

def credenceref1_NatDigits.l0 : Nat → ByteArray → List Int → Int → Option (List Int)
 | 0, _, _, _ => none
 | k + 1, x0, x3, x4 => if x4 < (x0.size : Int) then ((credenceref1_NatOf.f k 10).bind fun t882 => ((credenceref1_NatMul.f k x3 t882).bind fun t885 => (if 0 ≤ x4 then ((credenceref1_NatOf.f k (((bt x0 x4) - 48) % 256)).bind fun t888 => ((credenceref1_NatAdd.f k t885 t888).bind fun t891 => (credenceref1_NatDigits.l0 k x0 t891 (wrap64 (x4 + 1))))) else (none)))) else (some x3)
def credenceref1_NatDigits.f (k : Nat) (a0 : ByteArray) : Option (List Int) := credenceref1_NatDigits.l0 k a0 ([] : List Int) 0
def credenceref1_NatDigits.T5 : Bool × List (List Nat × List Nat) := (true, [([], []), ([], []), ([0, 1, 1], [0, 1]), ([], []), ([], []), ([3, 4], [3, 4]), ([5], [5]), ([6], [6]), ([7, 2], [7]), ([2, 8, 8], [2, 8]), ([9, 9, 0, 1, 2, 3, 4, 5, 6, 7, 8, 9], [0, 9])])
def credenceref1_NatDigits.B5 : List Nat := [0, 0, 3, 0, 0, 24, 56, 120, 255, 511, 1023]
theorem credenceref1_NatDigits.tab5 : rtab .any (opsOf Tryd.f59 5) = credenceref1_NatDigits.T5 := by kernel_rfl
theorem credenceref1_NatDigits.bits5 : waitsOk credenceref1_NatDigits.T5.2 credenceref1_NatDigits.B5 = true := by kernel_rfl
set_option maxHeartbeats 8000000 in
set_option maxRecDepth 100000 in
theorem credenceref1_NatDigits.calls (k : Nat) (a0 : ByteArray) (r : List Int) (w : World) (h : credenceref1_NatDigits.f k a0 = some r) :
 Calls Tryd.prog 59 #[.string a0] w fun e w' => ∃ v0_ : Value, e = .returned (v0_) ∧ Kd.R (Kd.int .u32) 37 w' w.heap.size (fun _ => True) v0_ r ∧ Below w.heap.size w w' := by
 have HB := zA (Below.refl w.heap.size w);have H : (credenceref1_NatDigits.l0 k a0 ([] : List Int) 0) = some r := h;clear h;have H' := zA H;clear H;go_enter Tryd.func59, Tryd.ntmps59
 go_wp2
 go_loopg [3, 4] k (fun kq v3 v4 w' => ∃ (x3_1 : List Int) (x4_1 : Int), v4 = .int .i64 x4_1 ∧ Aside0 (credenceref1_NatDigits.l0 kq a0 x3_1 x4_1 = some r) ∧ Aside0 (kq ≤ k) ∧ Aside0 (Kd.R (Kd.int .u32) 37 w' w.heap.size (fun _ => True) v3 x3_1) ∧ Aside0 (Below w.heap.size w w'))
 case atStart => exact ⟨(([] : List Int)), (0), zS, H', ⟨Nat.le_refl _⟩, ⟨by first | exact Kd.R_nil _ _ _ _ _ | exact Kd.V_nil _ _ _ _ _⟩, ⟨zH⟩⟩
 case round =>
  clear H';obtain ⟨x3_1, x4_1, rfl, HA, HK1, HO_3, HB⟩ := hrel;cases gk with
  | zero => exact absurd HA.out (by simp [credenceref1_NatDigits.l0])
  | succ k1 =>
   have H := HA.out;clear HA;simp only [credenceref1_NatDigits.l0] at H;by_cases c2 : x4_1 < (a0.size : Int)
   ·rw [if_pos c2] at H;have c2b0 := decide_eq_true c2;clear c2;obtain ⟨t882, A30, H⟩ := zi H;have A3 := zA A30;clear A30;obtain ⟨t885, A40, H⟩ := zi H;have A4 := zA A40;clear A40;by_cases c5 : 0 ≤ x4_1
    ·rw [if_pos c5] at H;have c5b0 := decide_eq_true c5;clear c5;obtain ⟨t888, A70, H⟩ := zi H;have A7 := zA A70;clear A70;obtain ⟨t891, A80, H⟩ := zi H;have A8 := zA A80;clear A80;have H' := zA H;clear H
     try go_wp2
     replace HO_3 := zA (Kd.R_drew HO_3.out);replace HB := zA (below_drew1 HB.out);have p6 : 0 ≤ (x4_1 : Int) := zD;have q6 : x4_1 < (a0.size : Int) := zD;have hx6 := bt_at a0 x4_1;replace p6 := eq_true p6;replace q6 := eq_true q6;refine start_ (n := 11) (S := fun w' => True) (ds := []) #[false, false, false, false, false, false, false, false, false, false, false] zk rfl rfl trivial (fun hHeld => ?_); refine with_tabW credenceref1_NatDigits.tab5 credenceref1_NatDigits.bits5 (fun HT_ HW_ => ?_);generalize wr.drew = w9 at HO_3 HB hHeld ⊢;refine zp 0 11 HT_ ?_;refine zp 3 14 HT_ ?_;refine zp 4 15 HT_ ?_;refine take_ (i := 5) (N := some 16) (v := ?_) (a' := ?_) #[true, false, false, true, true, true, false, false, false, false, false] rfl rfl (take_ofW HT_.out HW_.out zk) (fun _ _ _ h => h) (Or.inl ⟨by rfl, ?_⟩) hHeld ?_ ?_;rotate_left
     ·intro w' _
      go_simp
      with_reducible rfl
     rotate_left
     ·simp only [Act.put, List.setIfInBounds_toArray, List.set_cons_zero, List.set_cons_succ, i64_w, i32_w]
      rfl
     refine zp 6 17 HT_ ?_;refine zp 7 18 HT_ ?_;refine zo 1 (some 12) HT_ fun K hK => ?_
     refine goes_ Tryd.func60 zk rfl #[.int .u64 10] (by rfl) rfl rfl zX ?_;with_reducible refine (credenceref1_NatOf.calls k1 10 t882 _ A3.out).mono ?_
     rintro e w10 ⟨v883, rfl, ho0, hb⟩;refine ⟨_, rfl, ?_⟩;have HO884 := zA (Kd.R_lower (zN ho0 HO_3 rfl) (below_size (zb HB rfl)));replace HO_3 := zre HO_3 hb ho0 rfl;replace HB := zbb HB hb rfl;obtain ⟨Ao11, co11, eo11⟩ := Kd.R_slice HO_3.out;(first | subst eo11 | (injection eo11 with f1_ f2_ f3_; have f4_ := f1_.symm; have f5_ := f3_.symm; clear f1_ f2_ f3_; subst f4_; subst f5_));obtain ⟨Ao12, co12, eo12⟩ := Kd.R_slice HO884.out;(first | subst eo12 | (injection eo12 with f1_ f2_ f3_; have f4_ := f1_.symm; have f5_ := f3_.symm; clear f1_ f2_ f3_; subst f4_; subst f5_));refine hK.out _ _ trivial (fun hHeld => ?_);clear hK K;refine zn 12 ?_;refine zo 2 (some 13) HT_ fun K hK => ?_
     refine goes_ Tryd.func61 zk rfl #[.slice Ao11 x3_1.length co11, .slice Ao12 t882.length co12] (by rfl) rfl rfl zX ?_;with_reducible refine (credenceref1_NatMul.calls k1 _ _ x3_1 _ _ t882 t885 _ ?side1 ?side2 ?side3 ?side4 A4.out).mono ?_
     (case side1 => exact zC (Kd.R_reads' HO_3.out).2.2);(case side2 => exact (Kd.R_reads' HO_3.out).2.1);(case side3 => exact zC (Kd.R_reads' HO884.out).2.2);(case side4 => exact (Kd.R_reads' HO884.out).2.1);rintro e w13 ⟨v886, rfl, ho0, hb⟩;refine ⟨_, rfl, ?_⟩;have HO887 := zA (Kd.R_lower (zN (zN ho0 HO_3 rfl) HO884 rfl) (below_size (zb HB rfl)));replace HO_3 := zre HO_3 hb ho0 rfl;replace HO884 := zre HO884 hb ho0 rfl;replace HB := zbb HB hb rfl;refine hK.out _ _ trivial (fun hHeld => ?_);clear hK K;refine zn 13 ?_;refine zo 8 (some 19) HT_ fun K hK => ?_
     refine goes_ Tryd.func60 zk rfl #[.int .u64 (((bt a0 x4_1) - 48) % 256)] (by rfl) rfl rfl zX ?_;with_reducible refine (credenceref1_NatOf.calls k1 (((bt a0 x4_1) - 48) % 256) t888 _ A7.out).mono ?_
     rintro e w14 ⟨v889, rfl, ho0, hb⟩;refine ⟨_, rfl, ?_⟩;have HO890 := zA (Kd.R_lower (zN (zN (zN ho0 HO_3 rfl) HO884 rfl) HO887 rfl) (below_size (zb HB rfl)));replace HO_3 := zre HO_3 hb ho0 rfl;replace HO884 := zre HO884 hb ho0 rfl;replace HO887 := zre HO887 hb ho0 rfl;replace HB := zbb HB hb rfl;obtain ⟨Ao15, co15, eo15⟩ := Kd.R_slice HO887.out;(first | subst eo15 | (injection eo15 with f1_ f2_ f3_; have f4_ := f1_.symm; have f5_ := f3_.symm; clear f1_ f2_ f3_; subst f4_; subst f5_));obtain ⟨Ao16, co16, eo16⟩ := Kd.R_slice HO890.out;(first | subst eo16 | (injection eo16 with f1_ f2_ f3_; have f4_ := f1_.symm; have f5_ := f3_.symm; clear f1_ f2_ f3_; subst f4_; subst f5_));refine hK.out _ _ trivial (fun hHeld => ?_);clear hK K;refine zn 19 ?_;refine zo 9 (some 20) HT_ fun K hK => ?_
     refine goes_ Tryd.func73 zk rfl #[.slice Ao15 t885.length co15, .slice Ao16 t888.length co16] (by rfl) rfl rfl zX ?_;with_reducible refine (credenceref1_NatAdd.calls k1 _ _ t885 _ _ t888 t891 _ ?side1 ?side2 ?side3 ?side4 A8.out).mono ?_
     (case side1 => exact zC (Kd.R_reads' HO887.out).2.2);(case side2 => exact (Kd.R_reads' HO887.out).2.1);(case side3 => exact zC (Kd.R_reads' HO890.out).2.2);(case side4 => exact (Kd.R_reads' HO890.out).2.1);rintro e w17 ⟨v892, rfl, ho0, hb⟩;refine ⟨_, rfl, ?_⟩;have HO893 := zA (Kd.R_lower (zN (zN (zN (zN ho0 HO_3 rfl) HO884 rfl) HO887 rfl) HO890 rfl) (below_size (zb HB rfl)));replace HO_3 := zre HO_3 hb ho0 rfl;replace HO884 := zre HO884 hb ho0 rfl;replace HO887 := zre HO887 hb ho0 rfl;replace HO890 := zre HO890 hb ho0 rfl;replace HB := zbb HB hb rfl;refine hK.out _ _ trivial (fun hHeld => ?_);clear hK K;refine zn 20 ?_;refine zp 10 3 HT_ ?_;refine done_ (done_of HT_.out zk) ?_
     try go_wp2
     go_roundg k1
     case measure => have := HK1.out; omega
     case rel => exact ⟨(t891), (wrap64 (x4_1 + 1)), zS, H', ⟨by have := HK1.out; omega⟩, ⟨zRM HO893.out (fun _ hk => trivial)⟩, ⟨zH⟩⟩
    rw [if_neg c5] at H;cases H
   rw [if_neg c2] at H;have c2b0 := decide_eq_false c2;clear c2;obtain rfl := Option.some.inj H
   go_wp2
   go_ret
   exact ⟨_, zE, zR HO_3.out, zH⟩

end Go.Proofs.YtoeldfopjalpkaaDoor.Q

