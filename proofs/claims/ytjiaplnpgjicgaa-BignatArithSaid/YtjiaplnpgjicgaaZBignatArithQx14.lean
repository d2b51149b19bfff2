/- Lemmas for the proof of one law of this seat (Qx14). -/
import Derived.Test.YtjiaplnpgjicgaaZBignatArithQx0
import Derived.Test.YtjiaplnpgjicgaaZBignatArithQx3
import Derived.Test.YtjiaplnpgjicgaaZBignatArithQx13
import Derived.Test.YtjiaplnpgjicgaaZBignatArithSq
namespace Go.Proofs.Ytjiaplnpgjicgaa.Q
open Go.RowKit Go.Proofs.YtjiaplnpgjicgaaW.PrintWords Go.Proofs.YtjiaplnpgjicgaaW.PrintLast Go.Proofs.YtjiaplnpgjicgaaW.PrintMore
attribute [local go_sem] max2_int min2_int max_two min_two max_three min_three max_four min_four   -- for this text's walks alone
set_option linter.unusedVariables false
set_option linter.unusedSimpArgs false

def credenceref1_NatSub.l0 : Nat → List Int → List Int → Int → Int → Option (List Int × Bool)
 | 0, _, _, _, _ => none
 | k + 1, x6, x7, x8, x9 => if x9 < (x6.length : Int) then (if x9 < (x7.length : Int) then (if 0 ≤ x9 then (if (IntKind.u64.wrap (rd x6 x9)) < (IntKind.u64.wrap (x8 + (IntKind.u64.wrap (rd x7 x9)))) then (credenceref1_NatSub.l0 k (x6.set (x9 : Int).toNat ((IntKind.u64.wrap ((IntKind.u64.wrap ((IntKind.u64.wrap (rd x6 x9)) + (1 * 4294967296))) - (IntKind.u64.wrap (x8 + (IntKind.u64.wrap (rd x7 x9)))))) % 4294967296)) x7 1 (wrap64 (x9 + 1))) else (credenceref1_NatSub.l0 k (x6.set (x9 : Int).toNat ((IntKind.u64.wrap ((IntKind.u64.wrap ((IntKind.u64.wrap (rd x6 x9)) + (0 * 4294967296))) - (IntKind.u64.wrap (x8 + (IntKind.u64.wrap (rd x7 x9)))))) % 4294967296)) x7 0 (wrap64 (x9 + 1)))) else (none)) else (if 0 ≤ x9 then (if (IntKind.u64.wrap (rd x6 x9)) < x8 then (credenceref1_NatSub.l0 k (x6.set (x9 : Int).toNat ((IntKind.u64.wrap ((IntKind.u64.wrap ((IntKind.u64.wrap (rd x6 x9)) + (1 * 4294967296))) - x8)) % 4294967296)) x7 1 (wrap64 (x9 + 1))) else (credenceref1_NatSub.l0 k (x6.set (x9 : Int).toNat ((IntKind.u64.wrap ((IntKind.u64.wrap ((IntKind.u64.wrap (rd x6 x9)) + (0 * 4294967296))) - x8)) % 4294967296)) x7 0 (wrap64 (x9 + 1)))) else (none))) else ((credenceref1_NatNorm.f k x6).bind fun t653 => (some (t653, true)))
def credenceref1_NatSub.f (k : Nat) (l0 : List Int) (l1 : List Int) : Option (List Int × Bool) := (credenceref1_NatCmp.f k l0 l1).bind fun t646 => (if t646 < 0 then (some (([] : List Int), false)) else ((credenceref1_NatNorm.f k l0).bind fun t647 => ((credenceref1_NatNorm.f k l1).bind fun t650 => (credenceref1_NatSub.l0 k t647 t650 0 0))))
theorem credenceref1_NatSub.mono_l : ∀ k, (∀ y0 y1 y2 y3, LeO (credenceref1_NatSub.l0 k y0 y1 y2 y3) (credenceref1_NatSub.l0 (k + 1) y0 y1 y2 y3))
 | 0 => fun _ _ _ _ r h => by simp [credenceref1_NatSub.l0] at h
 | k + 1 => by
  have ih0 := credenceref1_NatSub.mono_l k
  ·
   intro y0 y1 y2 y3
   unfold credenceref1_NatSub.l0
   repeat' first
   | (with_reducible exact ih0 _ _ _ _)
   | (with_reducible exact credenceref1_NatCmp.mono _ _ _)
   | (with_reducible exact credenceref1_NatNorm.mono _ _)
   | (with_reducible exact LeO.refl _)
   | (with_reducible exact LeO.none _)
   | (with_reducible refine LeO.ite ?_ ?_)
   | (with_reducible refine LeO.bind ?_ (fun _ => ?_))
   | exact ih0 _ _ _ _
   | exact credenceref1_NatCmp.mono _ _ _
   | exact credenceref1_NatNorm.mono _ _
   | exact LeO.none _
   | refine LeO.ite ?_ ?_
   | refine LeO.bind ?_ (fun _ => ?_)
theorem credenceref1_NatSub.mono : ∀ a0 a1 k, LeO (credenceref1_NatSub.f k a0 a1) (credenceref1_NatSub.f (k + 1) a0 a1) := by
 intro a0 a1 k
 have ih0 := credenceref1_NatSub.mono_l k
 unfold credenceref1_NatSub.f
 repeat' first
   | (with_reducible exact ih0 _ _ _ _)
   | (with_reducible exact credenceref1_NatCmp.mono _ _ _)
   | (with_reducible exact credenceref1_NatNorm.mono _ _)
   | (with_reducible exact LeO.refl _)
   | (with_reducible exact LeO.none _)
   | (with_reducible refine LeO.ite ?_ ?_)
   | (with_reducible refine LeO.bind ?_ (fun _ => ?_))
   | exact ih0 _ _ _ _
   | exact credenceref1_NatCmp.mono _ _ _
   | exact credenceref1_NatNorm.mono _ _
   | exact LeO.none _
   | refine LeO.ite ?_ ?_
   | refine LeO.bind ?_ (fun _ => ?_)
set_option maxHeartbeats 8000000 in
set_option maxRecDepth 100000 in
theorem credenceref1_NatSub.calls (k : Nat) (A0 : Option Addr) (c0 : Nat) (l0 : List Int) (A1 : Option Addr) (c1 : Nat) (l1 : List Int) (r1 : List Int) (r2 : Bool) (w : World) (hr0 : Kd.C (Kd.int .u32) w A0 l0.length l0) (hc0 : l0.length ≤ c0) (hr1 : Kd.C (Kd.int .u32) w A1 l1.length l1) (hc1 : l1.length ≤ c1) (h : credenceref1_NatSub.f k l0 l1 = some (r1, r2)) :
  Calls Try.prog 33 #[.slice A0 l0.length c0, .slice A1 l1.length c1] w fun e w' => ∃ v0_ : Value, e = .returned (.tuple #[v0_, .bool r2]) ∧ Kd.R (Kd.int .u32) 43 w' w.heap.size (fun _ => True) v0_ r1 ∧ Below w.heap.size w w' := by
 have HR0 := Aside0.mk hr0
 have HC0 := Aside0.mk hc0
 clear hr0 hc0
 have HR1 := Aside0.mk hr1
 have HC1 := Aside0.mk hc1
 clear hr1 hc1
 have HB := Aside0.mk (Below.refl w.heap.size w)
 have H : ((credenceref1_NatCmp.f k l0 l1).bind fun t646 => (if t646 < 0 then (some (([] : List Int), false)) else ((credenceref1_NatNorm.f k l0).bind fun t647 => ((credenceref1_NatNorm.f k l1).bind fun t650 => (credenceref1_NatSub.l0 k t647 t650 0 0))))) = some (r1, r2) := h
 clear h
 replace H := Option.bind_eq_some_iff.mp H
 obtain ⟨t646, A30, H⟩ := H
 replace H : (if t646 < 0 then (some (([] : List Int), false)) else ((credenceref1_NatNorm.f k l0).bind fun t647 => ((credenceref1_NatNorm.f k l1).bind fun t650 => (credenceref1_NatSub.l0 k t647 t650 0 0)))) = some (r1, r2) := H
 have A3 := Aside0.mk A30
 clear A30
 by_cases c4 : t646 < 0
 ·
  rw [if_pos c4] at H
  have c4b0 : decide (t646 < 0) = true := decide_eq_true c4
  clear c4
  simp only [Option.some.injEq, Prod.mk.injEq] at H
  obtain ⟨rfl, rfl⟩ := H
  go_enter Try.func33, Try.ntmps33
  go_wp2_with (first | ((with_reducible refine gate_callee (f := 37) rfl ?_); refine goesL_ (some 13) rfl rfl Try.func37 (by kernel_rfl) rfl #[.slice A0 l0.length c0, .slice A1 l1.length c1] rfl (by first | rfl | (go_simp; first | done | rfl | ((try simp only [IntKind.wrap_u8, IntKind.wrap_u32, IntKind.wrap_u64]); omega))) ?_; (with_reducible refine (credenceref1_NatCmp.calls k _ _ l0 _ _ l1 t646 _ ?side1 ?side2 ?side3 ?side4 A3.out).mono ?_); (case side1 => repeat first | exact HR0.out | refine Kd.C_drewN ?_ _ | refine Kd.C_alloc ?_ _ | refine Kd.C_drew ?_); (case side2 => exact HC0.out); (case side3 => repeat first | exact HR1.out | refine Kd.C_drewN ?_ _ | refine Kd.C_alloc ?_ _ | refine Kd.C_drew ?_); (case side4 => exact HC1.out); rintro e w5 ⟨rfl, hb⟩; refine ⟨_, rfl, ?_⟩; have n0_ := Aside0.mk (below_step (zb HB rfl) hb); clear HB; have HB := n0_; clear n0_))
  go_ret2
  exact ⟨_, by first | rfl | (simp [*, errW_none, errW_some] <;> rfl), by first | exact Kd.R_nil _ _ _ _ _ | exact Kd.V_nil _ _ _ _ _, by repeat (first | (with_reducible first | exact HB.out | apply below_alloc | apply pw_below_drewN | apply below_drew1) | exact HB.out)⟩
 ·
  rw [if_neg c4] at H
  have c4b0 : decide (t646 < 0) = false := decide_eq_false c4
  clear c4
  replace H := Option.bind_eq_some_iff.mp H
  obtain ⟨t647, A60, H⟩ := H
  replace H : ((credenceref1_NatNorm.f k l1).bind fun t650 => (credenceref1_NatSub.l0 k t647 t650 0 0)) = some (r1, r2) := H
  have A6 := Aside0.mk A60
  clear A60
  replace H := Option.bind_eq_some_iff.mp H
  obtain ⟨t650, A70, H⟩ := H
  replace H : (credenceref1_NatSub.l0 k t647 t650 0 0) = some (r1, r2) := H
  have A7 := Aside0.mk A70
  clear A70
  have H' := Aside0.mk H
  clear H
  go_enter Try.func33, Try.ntmps33
  go_wp2_with (first | ((with_reducible refine gate_callee (f := 37) rfl ?_); refine goesL_ (some 13) rfl rfl Try.func37 (by kernel_rfl) rfl #[.slice A0 l0.length c0, .slice A1 l1.length c1] rfl (by first | rfl | (go_simp; first | done | rfl | ((try simp only [IntKind.wrap_u8, IntKind.wrap_u32, IntKind.wrap_u64]); omega))) ?_; (with_reducible refine (credenceref1_NatCmp.calls k _ _ l0 _ _ l1 t646 _ ?side1 ?side2 ?side3 ?side4 A3.out).mono ?_); (case side1 => repeat first | exact HR0.out | refine Kd.C_drewN ?_ _ | refine Kd.C_alloc ?_ _ | refine Kd.C_drew ?_); (case side2 => exact HC0.out); (case side3 => repeat first | exact HR1.out | refine Kd.C_drewN ?_ _ | refine Kd.C_alloc ?_ _ | refine Kd.C_drew ?_); (case side4 => exact HC1.out); rintro e w8 ⟨rfl, hb⟩; refine ⟨_, rfl, ?_⟩; have n0_ := Aside0.mk (below_step (zb HB rfl) hb); clear HB; have HB := n0_; clear n0_) | ((with_reducible refine gate_callee (f := 35) rfl ?_); refine goesL_ (some 16) rfl rfl Try.func35 (by kernel_rfl) rfl #[.slice A0 l0.length c0] rfl (by first | rfl | (go_simp; first | done | rfl | ((try simp only [IntKind.wrap_u8, IntKind.wrap_u32, IntKind.wrap_u64]); omega))) ?_; (with_reducible refine (credenceref1_NatNorm.calls k _ _ l0 t647 _ ?side1 ?side2 A6.out).mono ?_); (case side1 => repeat first | exact (Kd.C_below HR0.out HB.out) | refine Kd.C_drewN ?_ _ | refine Kd.C_alloc ?_ _ | refine Kd.C_drew ?_); (case side2 => exact HC0.out); rintro e w9 ⟨v648, rfl, ho0, hb⟩; refine ⟨_, rfl, ?_⟩; have n0_ := Aside0.mk (Kd.R_lower ho0 (below_size (zb HB rfl))); have n1_ := Aside0.mk (below_step (zb HB rfl) hb); clear HB; have HO649 := n0_; have HB := n1_; clear n0_ n1_) | ((with_reducible refine gate_callee (f := 35) rfl ?_); refine goesL_ (some 18) rfl rfl Try.func35 (by kernel_rfl) rfl #[.slice A1 l1.length c1] rfl (by first | rfl | (go_simp; first | done | rfl | ((try simp only [IntKind.wrap_u8, IntKind.wrap_u32, IntKind.wrap_u64]); omega))) ?_; (with_reducible refine (credenceref1_NatNorm.calls k _ _ l1 t650 _ ?side1 ?side2 A7.out).mono ?_); (case side1 => repeat first | exact (Kd.C_below HR1.out HB.out) | refine Kd.C_drewN ?_ _ | refine Kd.C_alloc ?_ _ | refine Kd.C_drew ?_); (case side2 => exact HC1.out); rintro e w10 ⟨v651, rfl, ho0, hb⟩; refine ⟨_, rfl, ?_⟩; have n0_ := Aside0.mk (Kd.R_elder' (zr HO649 rfl) (Kd.R_base ho0) hb); have n1_ := Aside0.mk (Kd.R_lower (Kd.R_new' ho0 (Kd.R_lt (zr HO649 rfl))) (below_size (zb HB rfl))); have n2_ := Aside0.mk (below_step (zb HB rfl) hb); clear HO649; clear HB; have HO649 := n0_; have HO652 := n1_; have HB := n2_; clear n0_ n1_ n2_))
  go_loopg [8, 9] k (fun kq v8 v9 w' => ∃ (x6_1 : List Int) (x8_1 : Int) (x9_1 : Int), v8 = .int .u64 x8_1 ∧ v9 = .int .i64 x9_1 ∧ Aside0 (credenceref1_NatSub.l0 kq x6_1 t650 x8_1 x9_1 = some (r1, r2)) ∧ Aside0 (kq ≤ k) ∧ Aside0 (Kd.R (Kd.int .u32) 43 w' w.heap.size (fun k_ => some k_ ≠ (v651 : Value).ownBlock) v648 x6_1) ∧ Aside0 (Kd.R (Kd.int .u32) 43 w' w.heap.size (fun k_ => some k_ ≠ (v648 : Value).ownBlock) v651 t650) ∧ Aside0 (Below w.heap.size w w'))
  case atStart => exact ⟨(t647), (0), (0), (by first | rfl | (simp [*]; done)), (by first | rfl | (simp [*]; done)), H', ⟨Nat.le_refl _⟩, ⟨by (with_reducible repeat (first | apply Kd.R_alloc | apply Kd.R_drewN | apply Kd.R_drew)); exact Kd.R_mono HO649.out (fun _ hk => hk.2)⟩, ⟨by (with_reducible repeat (first | apply Kd.R_alloc | apply Kd.R_drewN | apply Kd.R_drew)); exact Kd.R_mono HO652.out (fun _ hk => hk.2)⟩, ⟨by repeat (first | (with_reducible first | exact HB.out | apply below_alloc | apply pw_below_drewN | apply below_drew1) | exact HB.out)⟩⟩
  case round =>
   clear H'
   try clear c1
   try clear p2
   try clear c3
   try clear c4
   try clear c4b0
   obtain ⟨x6_1, x8_1, x9_1, rfl, rfl, HA, HK1, HO_6, HO_7, HB⟩ := hrel
   cases gk with
   | zero => exact absurd HA.out (by simp [credenceref1_NatSub.l0])
   | succ k1 =>
    have H := HA.out
    clear HA
    simp only [credenceref1_NatSub.l0] at H
    by_cases c11 : x9_1 < (x6_1.length : Int)
    ·
     rw [if_pos c11] at H
     have c11b0 : decide (x9_1 < (x6_1.length : Int)) = true := decide_eq_true c11
     clear c11
     by_cases c12 : x9_1 < (t650.length : Int)
     ·
      rw [if_pos c12] at H
      have c12b0 : decide (x9_1 < (t650.length : Int)) = true := decide_eq_true c12
      clear c12
      by_cases c13 : 0 ≤ x9_1
      ·
       rw [if_pos c13] at H
       have c13b0 : decide (0 ≤ x9_1) = true := decide_eq_true c13
       clear c13
       by_cases c14 : (IntKind.u64.wrap (rd x6_1 x9_1)) < (IntKind.u64.wrap (x8_1 + (IntKind.u64.wrap (rd t650 x9_1))))
       ·
        rw [if_pos c14] at H
        have c14b0 : decide ((IntKind.u64.wrap (rd x6_1 x9_1)) < (IntKind.u64.wrap (x8_1 + (IntKind.u64.wrap (rd t650 x9_1))))) = true := decide_eq_true c14
        clear c14
        obtain ⟨y659, hy659⟩ : ∃ y_ : List Int, y_ = (x6_1.set (x9_1 : Int).toNat ((IntKind.u64.wrap ((IntKind.u64.wrap ((IntKind.u64.wrap (rd x6_1 x9_1)) + (1 * 4294967296))) - (IntKind.u64.wrap (x8_1 + (IntKind.u64.wrap (rd t650 x9_1)))))) % 4294967296)) := ⟨_, rfl⟩
        replace H : (credenceref1_NatSub.l0 k1 y659 t650 1 (wrap64 (x9_1 + 1))) = some (r1, r2) := by first | (rw [hy659]; with_reducible exact H) | (have H2_ := (Option.bind_some _ _).symm.trans H; rw [hy659]; with_reducible exact H2_) | (have H2_ := (Option.bind_some _ _).symm.trans H; with_reducible exact H2_) | with_reducible exact H | (rw [hy659]; exact H) | exact H
        have Ny659 := Aside0.mk hy659
        clear hy659
        have H' := Aside0.mk H
        clear H
        obtain ⟨Ao16, co16, eo16⟩ := Kd.R_slice HO_6.out
        subst eo16
        obtain ⟨Ao17, co17, eo17⟩ := Kd.R_slice HO_7.out
        subst eo17
        have p656 : 0 ≤ (x9_1 : Int) := of_decide_eq_true (by first | (with_reducible assumption) | assumption)
        have q656 : x9_1 < (t650.length : Int) := of_decide_eq_true (by first | (with_reducible assumption) | assumption)
        obtain ⟨ad656, e656, hx656_0⟩ := Kd.at_int (Kd.R_reads' HO_7.out).2.2 x9_1 p656 q656
        cases e656
        replace p656 := eq_true p656
        replace q656 := eq_true q656
        have p657 : 0 ≤ (x9_1 : Int) := of_decide_eq_true (by first | (with_reducible assumption) | assumption)
        have q657 : x9_1 < (x6_1.length : Int) := of_decide_eq_true (by first | (with_reducible assumption) | assumption)
        obtain ⟨ad657, e657, hx657_0⟩ := Kd.at_int (Kd.R_reads' HO_6.out).2.2 x9_1 p657 q657
        cases e657
        replace p657 := eq_true p657
        replace q657 := eq_true q657
        have p658 : 0 ≤ (x9_1 : Int) := of_decide_eq_true (by first | (with_reducible assumption) | assumption)
        have q658 : x9_1 < (x6_1.length : Int) := of_decide_eq_true (by first | (with_reducible assumption) | assumption)
        obtain ⟨ad658, e658, hx658_0⟩ := Kd.at_int (Kd.R_reads' HO_6.out).2.2 x9_1 p658 q658
        obtain rfl : ad657 = ad658 := (by injection e658)
        replace p658 := eq_true p658
        replace q658 := eq_true q658
        have p15 : 0 ≤ (x9_1 : Int) := of_decide_eq_true (by first | (with_reducible assumption) | assumption)
        have q15 : (x9_1 : Int) < ((x6_1.length : Int) : Int) := of_decide_eq_true (by first | (with_reducible assumption) | assumption)
        obtain ⟨go15, co15, eo15, gb15, gl15, cl15, HG15⟩ := Kd.R_form HO_6.out (by omega)
        (first | cases eo15 | (injection eo15 with ea_ en_ ec_; (first | subst ea_ | (injection ea_ with ea_; subst ea_)); subst ec_; clear en_))
        have GB15 := Aside0.mk gb15
        have GG15 := Aside0.mk HG15
        clear gb15 gl15 HG15
        (first | simp only [add_plain] at hx657_0 | skip)
        (first | simp only [add_plain] at hx658_0 | skip)
        obtain ⟨hx15_0, hf15_0⟩ := Kd.R_celln 0 HO_6.out (x9_1 : Int) p15 q15
        replace p15 := eq_true p15
        replace q15 := eq_true q15
        obtain ⟨hy18_, hz18_⟩ := Kd.R_celln 0 HO_6.out (x9_1 : Int) (of_decide_eq_true (by first | (with_reducible assumption) | assumption)) (of_decide_eq_true (by first | (with_reducible assumption) | assumption))
        have HP18 := Kd.R_putg HO_6.out (x9_1 : Int) ((IntKind.u64.wrap ((IntKind.u64.wrap ((IntKind.u64.wrap (rd x6_1 x9_1)) + (1 * 4294967296))) - (IntKind.u64.wrap (x8_1 + (IntKind.u64.wrap (rd t650 x9_1)))))) % 4294967296)
        go_wp2_with (first | ((with_reducible refine gate_store (t := 43) (p := 57) rfl ?_); refine store_event (t := 43) (p := 57) (v := ?vo_w19) (w1 := (wr.setCell ⟨go15, (x9_1 : Int).toNat, none⟩ (.int .u32 ((IntKind.u64.wrap ((IntKind.u64.wrap ((IntKind.u64.wrap (rd x6_1 x9_1)) + (1 * 4294967296))) - (IntKind.u64.wrap (x8_1 + (IntKind.u64.wrap (rd t650 x9_1)))))) % 4294967296)))) ?hg ?ho ?hn ?hr ?_; (case ho => rfl); (case hg => rfl); (case hn => rfl); (case hr => first | (go_simp; done) | (go_simp; rfl)); intro w19 hw; have hg : wr.grownBy w19 (some go15) := (by rw [hw]; exact HP18.2); have hp_ : Kd.R (Kd.int .u32) 43 w19 w.heap.size (fun k_ => some k_ ≠ (.slice (some ad656) t650.length co17 : Value).ownBlock) (.slice (some ⟨go15, 0, none⟩) x6_1.length co16) y659 := (by rw [hw, Ny659.out]; exact HP18.1); clear HP18; have n0_ := Aside0.mk (hp_); have n1_ := Aside0.mk (Kd.R_after (v := (.slice (some ⟨go15, 0, none⟩) x6_1.length co16)) (v1 := (.slice (some ⟨go15, 0, none⟩) x6_1.length co16)) (ok := (fun _ => True)) (by (with_reducible repeat (first | apply Kd.R_alloc | apply Kd.R_drewN | apply Kd.R_drew)); exact Kd.R_mono HO_7.out (fun _ hk => ⟨trivial, hk⟩)) hg (.inl rfl)); have n2_ := Aside0.mk ((by rw [hw]; exact below_set (HB.out) GB15.out : Below w.heap.size w w19)); clear HO_6; clear HO_7; clear HB; have HO_6 := n0_; have HO_7 := n1_; have HB := n2_; clear n0_ n1_ n2_; clear hg hw hp_))
        go_roundg k1
        case measure => have := HK1.out; omega
        case rel => exact ⟨(y659), (1), (wrap64 (x9_1 + 1)), (by first | rfl | (simp [*]; done)), (by first | rfl | (simp [*]; done)), H', ⟨by have := HK1.out; omega⟩, ⟨by (with_reducible repeat (first | apply Kd.R_alloc | apply Kd.R_drewN | apply Kd.R_drew)); exact HO_6.out⟩, ⟨by (with_reducible repeat (first | apply Kd.R_alloc | apply Kd.R_drewN | apply Kd.R_drew)); exact Kd.R_mono HO_7.out (fun _ hk => hk.2)⟩, ⟨by repeat (first | (with_reducible first | exact HB.out | apply below_alloc | apply pw_below_drewN | apply below_drew1) | exact HB.out)⟩⟩
       ·
        rw [if_neg c14] at H
        have c14b0 : decide ((IntKind.u64.wrap (rd x6_1 x9_1)) < (IntKind.u64.wrap (x8_1 + (IntKind.u64.wrap (rd t650 x9_1))))) = false := decide_eq_false c14
        clear c14
        obtain ⟨y661, hy661⟩ : ∃ y_ : List Int, y_ = (x6_1.set (x9_1 : Int).toNat ((IntKind.u64.wrap ((IntKind.u64.wrap ((IntKind.u64.wrap (rd x6_1 x9_1)) + (0 * 4294967296))) - (IntKind.u64.wrap (x8_1 + (IntKind.u64.wrap (rd t650 x9_1)))))) % 4294967296)) := ⟨_, rfl⟩
        replace H : (credenceref1_NatSub.l0 k1 y661 t650 0 (wrap64 (x9_1 + 1))) = some (r1, r2) := by first | (rw [hy661]; with_reducible exact H) | (have H2_ := (Option.bind_some _ _).symm.trans H; rw [hy661]; with_reducible exact H2_) | (have H2_ := (Option.bind_some _ _).symm.trans H; with_reducible exact H2_) | with_reducible exact H | (rw [hy661]; exact H) | exact H
        have Ny661 := Aside0.mk hy661
        clear hy661
        have H' := Aside0.mk H
        clear H
        obtain ⟨Ao21, co21, eo21⟩ := Kd.R_slice HO_6.out
        subst eo21
        obtain ⟨Ao22, co22, eo22⟩ := Kd.R_slice HO_7.out
        subst eo22
        have p656 : 0 ≤ (x9_1 : Int) := of_decide_eq_true (by first | (with_reducible assumption) | assumption)
        have q656 : x9_1 < (t650.length : Int) := of_decide_eq_true (by first | (with_reducible assumption) | assumption)
        obtain ⟨ad656, e656, hx656_0⟩ := Kd.at_int (Kd.R_reads' HO_7.out).2.2 x9_1 p656 q656
        cases e656
        replace p656 := eq_true p656
        replace q656 := eq_true q656
        have p657 : 0 ≤ (x9_1 : Int) := of_decide_eq_true (by first | (with_reducible assumption) | assumption)
        have q657 : x9_1 < (x6_1.length : Int) := of_decide_eq_true (by first | (with_reducible assumption) | assumption)
        obtain ⟨ad657, e657, hx657_0⟩ := Kd.at_int (Kd.R_reads' HO_6.out).2.2 x9_1 p657 q657
        cases e657
        replace p657 := eq_true p657
        replace q657 := eq_true q657
        have p660 : 0 ≤ (x9_1 : Int) := of_decide_eq_true (by first | (with_reducible assumption) | assumption)
        have q660 : x9_1 < (x6_1.length : Int) := of_decide_eq_true (by first | (with_reducible assumption) | assumption)
        obtain ⟨ad660, e660, hx660_0⟩ := Kd.at_int (Kd.R_reads' HO_6.out).2.2 x9_1 p660 q660
        obtain rfl : ad657 = ad660 := (by injection e660)
        replace p660 := eq_true p660
        replace q660 := eq_true q660
        have p20 : 0 ≤ (x9_1 : Int) := of_decide_eq_true (by first | (with_reducible assumption) | assumption)
        have q20 : (x9_1 : Int) < ((x6_1.length : Int) : Int) := of_decide_eq_true (by first | (with_reducible assumption) | assumption)
        obtain ⟨go20, co20, eo20, gb20, gl20, cl20, HG20⟩ := Kd.R_form HO_6.out (by omega)
        (first | cases eo20 | (injection eo20 with ea_ en_ ec_; (first | subst ea_ | (injection ea_ with ea_; subst ea_)); subst ec_; clear en_))
        have GB20 := Aside0.mk gb20
        have GG20 := Aside0.mk HG20
        clear gb20 gl20 HG20
        (first | simp only [add_plain] at hx657_0 | skip)
        (first | simp only [add_plain] at hx660_0 | skip)
        obtain ⟨hx20_0, hf20_0⟩ := Kd.R_celln 0 HO_6.out (x9_1 : Int) p20 q20
        replace p20 := eq_true p20
        replace q20 := eq_true q20
        obtain ⟨hy23_, hz23_⟩ := Kd.R_celln 0 HO_6.out (x9_1 : Int) (of_decide_eq_true (by first | (with_reducible assumption) | assumption)) (of_decide_eq_true (by first | (with_reducible assumption) | assumption))
        have HP23 := Kd.R_putg HO_6.out (x9_1 : Int) ((IntKind.u64.wrap ((IntKind.u64.wrap ((IntKind.u64.wrap (rd x6_1 x9_1)) + (0 * 4294967296))) - (IntKind.u64.wrap (x8_1 + (IntKind.u64.wrap (rd t650 x9_1)))))) % 4294967296)
        go_wp2_with (first | ((with_reducible refine gate_store (t := 43) (p := 57) rfl ?_); refine store_event (t := 43) (p := 57) (v := ?vo_w24) (w1 := (wr.setCell ⟨go20, (x9_1 : Int).toNat, none⟩ (.int .u32 ((IntKind.u64.wrap ((IntKind.u64.wrap ((IntKind.u64.wrap (rd x6_1 x9_1)) + (0 * 4294967296))) - (IntKind.u64.wrap (x8_1 + (IntKind.u64.wrap (rd t650 x9_1)))))) % 4294967296)))) ?hg ?ho ?hn ?hr ?_; (case ho => rfl); (case hg => rfl); (case hn => rfl); (case hr => first | (go_simp; done) | (go_simp; rfl)); intro w24 hw; have hg : wr.grownBy w24 (some go20) := (by rw [hw]; exact HP23.2); have hp_ : Kd.R (Kd.int .u32) 43 w24 w.heap.size (fun k_ => some k_ ≠ (.slice (some ad656) t650.length co22 : Value).ownBlock) (.slice (some ⟨go20, 0, none⟩) x6_1.length co21) y661 := (by rw [hw, Ny661.out]; exact HP23.1); clear HP23; have n0_ := Aside0.mk (hp_); have n1_ := Aside0.mk (Kd.R_after (v := (.slice (some ⟨go20, 0, none⟩) x6_1.length co21)) (v1 := (.slice (some ⟨go20, 0, none⟩) x6_1.length co21)) (ok := (fun _ => True)) (by (with_reducible repeat (first | apply Kd.R_alloc | apply Kd.R_drewN | apply Kd.R_drew)); exact Kd.R_mono HO_7.out (fun _ hk => ⟨trivial, hk⟩)) hg (.inl rfl)); have n2_ := Aside0.mk ((by rw [hw]; exact below_set (HB.out) GB20.out : Below w.heap.size w w24)); clear HO_6; clear HO_7; clear HB; have HO_6 := n0_; have HO_7 := n1_; have HB := n2_; clear n0_ n1_ n2_; clear hg hw hp_))
        go_roundg k1
        case measure => have := HK1.out; omega
        case rel => exact ⟨(y661), (0), (wrap64 (x9_1 + 1)), (by first | rfl | (simp [*]; done)), (by first | rfl | (simp [*]; done)), H', ⟨by have := HK1.out; omega⟩, ⟨by (with_reducible repeat (first | apply Kd.R_alloc | apply Kd.R_drewN | apply Kd.R_drew)); exact HO_6.out⟩, ⟨by (with_reducible repeat (first | apply Kd.R_alloc | apply Kd.R_drewN | apply Kd.R_drew)); exact Kd.R_mono HO_7.out (fun _ hk => hk.2)⟩, ⟨by repeat (first | (with_reducible first | exact HB.out | apply below_alloc | apply pw_below_drewN | apply below_drew1) | exact HB.out)⟩⟩
      ·
       rw [if_neg c13] at H
       exact absurd H (by simp)
     ·
      rw [if_neg c12] at H
      have c12b0 : decide (x9_1 < (t650.length : Int)) = false := decide_eq_false c12
      clear c12
      by_cases c25 : 0 ≤ x9_1
      ·
       rw [if_pos c25] at H
       have c25b0 : decide (0 ≤ x9_1) = true := decide_eq_true c25
       clear c25
       by_cases c26 : (IntKind.u64.wrap (rd x6_1 x9_1)) < x8_1
       ·
        rw [if_pos c26] at H
        have c26b0 : decide ((IntKind.u64.wrap (rd x6_1 x9_1)) < x8_1) = true := decide_eq_true c26
        clear c26
        obtain ⟨y664, hy664⟩ : ∃ y_ : List Int, y_ = (x6_1.set (x9_1 : Int).toNat ((IntKind.u64.wrap ((IntKind.u64.wrap ((IntKind.u64.wrap (rd x6_1 x9_1)) + (1 * 4294967296))) - x8_1)) % 4294967296)) := ⟨_, rfl⟩
        replace H : (credenceref1_NatSub.l0 k1 y664 t650 1 (wrap64 (x9_1 + 1))) = some (r1, r2) := by first | (rw [hy664]; with_reducible exact H) | (have H2_ := (Option.bind_some _ _).symm.trans H; rw [hy664]; with_reducible exact H2_) | (have H2_ := (Option.bind_some _ _).symm.trans H; with_reducible exact H2_) | with_reducible exact H | (rw [hy664]; exact H) | exact H
        have Ny664 := Aside0.mk hy664
        clear hy664
        have H' := Aside0.mk H
        clear H
        obtain ⟨Ao28, co28, eo28⟩ := Kd.R_slice HO_6.out
        subst eo28
        obtain ⟨Ao29, co29, eo29⟩ := Kd.R_slice HO_7.out
        subst eo29
        have p662 : 0 ≤ (x9_1 : Int) := of_decide_eq_true (by first | (with_reducible assumption) | assumption)
        have q662 : x9_1 < (x6_1.length : Int) := of_decide_eq_true (by first | (with_reducible assumption) | assumption)
        obtain ⟨ad662, e662, hx662_0⟩ := Kd.at_int (Kd.R_reads' HO_6.out).2.2 x9_1 p662 q662
        cases e662
        replace p662 := eq_true p662
        replace q662 := eq_true q662
        have p663 : 0 ≤ (x9_1 : Int) := of_decide_eq_true (by first | (with_reducible assumption) | assumption)
        have q663 : x9_1 < (x6_1.length : Int) := of_decide_eq_true (by first | (with_reducible assumption) | assumption)
        obtain ⟨ad663, e663, hx663_0⟩ := Kd.at_int (Kd.R_reads' HO_6.out).2.2 x9_1 p663 q663
        obtain rfl : ad662 = ad663 := (by injection e663)
        replace p663 := eq_true p663
        replace q663 := eq_true q663
        have p27 : 0 ≤ (x9_1 : Int) := of_decide_eq_true (by first | (with_reducible assumption) | assumption)
        have q27 : (x9_1 : Int) < ((x6_1.length : Int) : Int) := of_decide_eq_true (by first | (with_reducible assumption) | assumption)
        obtain ⟨go27, co27, eo27, gb27, gl27, cl27, HG27⟩ := Kd.R_form HO_6.out (by omega)
        (first | cases eo27 | (injection eo27 with ea_ en_ ec_; (first | subst ea_ | (injection ea_ with ea_; subst ea_)); subst ec_; clear en_))
        have GB27 := Aside0.mk gb27
        have GG27 := Aside0.mk HG27
        clear gb27 gl27 HG27
        (first | simp only [add_plain] at hx662_0 | skip)
        (first | simp only [add_plain] at hx663_0 | skip)
        obtain ⟨hx27_0, hf27_0⟩ := Kd.R_celln 0 HO_6.out (x9_1 : Int) p27 q27
        replace p27 := eq_true p27
        replace q27 := eq_true q27
        obtain ⟨hy30_, hz30_⟩ := Kd.R_celln 0 HO_6.out (x9_1 : Int) (of_decide_eq_true (by first | (with_reducible assumption) | assumption)) (of_decide_eq_true (by first | (with_reducible assumption) | assumption))
        have HP30 := Kd.R_putg HO_6.out (x9_1 : Int) ((IntKind.u64.wrap ((IntKind.u64.wrap ((IntKind.u64.wrap (rd x6_1 x9_1)) + (1 * 4294967296))) - x8_1)) % 4294967296)
        go_wp2_with (first | ((with_reducible refine gate_store (t := 43) (p := 57) rfl ?_); refine store_event (t := 43) (p := 57) (v := ?vo_w31) (w1 := (wr.setCell ⟨go27, (x9_1 : Int).toNat, none⟩ (.int .u32 ((IntKind.u64.wrap ((IntKind.u64.wrap ((IntKind.u64.wrap (rd x6_1 x9_1)) + (1 * 4294967296))) - x8_1)) % 4294967296)))) ?hg ?ho ?hn ?hr ?_; (case ho => rfl); (case hg => rfl); (case hn => rfl); (case hr => first | (go_simp; done) | (go_simp; rfl)); intro w31 hw; have hg : wr.grownBy w31 (some go27) := (by rw [hw]; exact HP30.2); have hp_ : Kd.R (Kd.int .u32) 43 w31 w.heap.size (fun k_ => some k_ ≠ (.slice Ao29 t650.length co29 : Value).ownBlock) (.slice (some ⟨go27, 0, none⟩) x6_1.length co28) y664 := (by rw [hw, Ny664.out]; exact HP30.1); clear HP30; have n0_ := Aside0.mk (hp_); have n1_ := Aside0.mk (Kd.R_after (v := (.slice (some ⟨go27, 0, none⟩) x6_1.length co28)) (v1 := (.slice (some ⟨go27, 0, none⟩) x6_1.length co28)) (ok := (fun _ => True)) (by (with_reducible repeat (first | apply Kd.R_alloc | apply Kd.R_drewN | apply Kd.R_drew)); exact Kd.R_mono HO_7.out (fun _ hk => ⟨trivial, hk⟩)) hg (.inl rfl)); have n2_ := Aside0.mk ((by rw [hw]; exact below_set (HB.out) GB27.out : Below w.heap.size w w31)); clear HO_6; clear HO_7; clear HB; have HO_6 := n0_; have HO_7 := n1_; have HB := n2_; clear n0_ n1_ n2_; clear hg hw hp_))
        go_roundg k1
        case measure => have := HK1.out; omega
        case rel => exact ⟨(y664), (1), (wrap64 (x9_1 + 1)), (by first | rfl | (simp [*]; done)), (by first | rfl | (simp [*]; done)), H', ⟨by have := HK1.out; omega⟩, ⟨by (with_reducible repeat (first | apply Kd.R_alloc | apply Kd.R_drewN | apply Kd.R_drew)); exact HO_6.out⟩, ⟨by (with_reducible repeat (first | apply Kd.R_alloc | apply Kd.R_drewN | apply Kd.R_drew)); exact Kd.R_mono HO_7.out (fun _ hk => hk.2)⟩, ⟨by repeat (first | (with_reducible first | exact HB.out | apply below_alloc | apply pw_below_drewN | apply below_drew1) | exact HB.out)⟩⟩
       ·
        rw [if_neg c26] at H
        have c26b0 : decide ((IntKind.u64.wrap (rd x6_1 x9_1)) < x8_1) = false := decide_eq_false c26
        clear c26
        obtain ⟨y666, hy666⟩ : ∃ y_ : List Int, y_ = (x6_1.set (x9_1 : Int).toNat ((IntKind.u64.wrap ((IntKind.u64.wrap ((IntKind.u64.wrap (rd x6_1 x9_1)) + (0 * 4294967296))) - x8_1)) % 4294967296)) := ⟨_, rfl⟩
        replace H : (credenceref1_NatSub.l0 k1 y666 t650 0 (wrap64 (x9_1 + 1))) = some (r1, r2) := by first | (rw [hy666]; with_reducible exact H) | (have H2_ := (Option.bind_some _ _).symm.trans H; rw [hy666]; with_reducible exact H2_) | (have H2_ := (Option.bind_some _ _).symm.trans H; with_reducible exact H2_) | with_reducible exact H | (rw [hy666]; exact H) | exact H
        have Ny666 := Aside0.mk hy666
        clear hy666
        have H' := Aside0.mk H
        clear H
        obtain ⟨Ao33, co33, eo33⟩ := Kd.R_slice HO_6.out
        subst eo33
        obtain ⟨Ao34, co34, eo34⟩ := Kd.R_slice HO_7.out
        subst eo34
        have p662 : 0 ≤ (x9_1 : Int) := of_decide_eq_true (by first | (with_reducible assumption) | assumption)
        have q662 : x9_1 < (x6_1.length : Int) := of_decide_eq_true (by first | (with_reducible assumption) | assumption)
        obtain ⟨ad662, e662, hx662_0⟩ := Kd.at_int (Kd.R_reads' HO_6.out).2.2 x9_1 p662 q662
        cases e662
        replace p662 := eq_true p662
        replace q662 := eq_true q662
        have p665 : 0 ≤ (x9_1 : Int) := of_decide_eq_true (by first | (with_reducible assumption) | assumption)
        have q665 : x9_1 < (x6_1.length : Int) := of_decide_eq_true (by first | (with_reducible assumption) | assumption)
        obtain ⟨ad665, e665, hx665_0⟩ := Kd.at_int (Kd.R_reads' HO_6.out).2.2 x9_1 p665 q665
        obtain rfl : ad662 = ad665 := (by injection e665)
        replace p665 := eq_true p665
        replace q665 := eq_true q665
        have p32 : 0 ≤ (x9_1 : Int) := of_decide_eq_true (by first | (with_reducible assumption) | assumption)
        have q32 : (x9_1 : Int) < ((x6_1.length : Int) : Int) := of_decide_eq_true (by first | (with_reducible assumption) | assumption)
        obtain ⟨go32, co32, eo32, gb32, gl32, cl32, HG32⟩ := Kd.R_form HO_6.out (by omega)
        (first | cases eo32 | (injection eo32 with ea_ en_ ec_; (first | subst ea_ | (injection ea_ with ea_; subst ea_)); subst ec_; clear en_))
        have GB32 := Aside0.mk gb32
        have GG32 := Aside0.mk HG32
        clear gb32 gl32 HG32
        (first | simp only [add_plain] at hx662_0 | skip)
        (first | simp only [add_plain] at hx665_0 | skip)
        obtain ⟨hx32_0, hf32_0⟩ := Kd.R_celln 0 HO_6.out (x9_1 : Int) p32 q32
        replace p32 := eq_true p32
        replace q32 := eq_true q32
        obtain ⟨hy35_, hz35_⟩ := Kd.R_celln 0 HO_6.out (x9_1 : Int) (of_decide_eq_true (by first | (with_reducible assumption) | assumption)) (of_decide_eq_true (by first | (with_reducible assumption) | assumption))
        have HP35 := Kd.R_putg HO_6.out (x9_1 : Int) ((IntKind.u64.wrap ((IntKind.u64.wrap ((IntKind.u64.wrap (rd x6_1 x9_1)) + (0 * 4294967296))) - x8_1)) % 4294967296)
        go_wp2_with (first | ((with_reducible refine gate_store (t := 43) (p := 57) rfl ?_); refine store_event (t := 43) (p := 57) (v := ?vo_w36) (w1 := (wr.setCell ⟨go32, (x9_1 : Int).toNat, none⟩ (.int .u32 ((IntKind.u64.wrap ((IntKind.u64.wrap ((IntKind.u64.wrap (rd x6_1 x9_1)) + (0 * 4294967296))) - x8_1)) % 4294967296)))) ?hg ?ho ?hn ?hr ?_; (case ho => rfl); (case hg => rfl); (case hn => rfl); (case hr => first | (go_simp; done) | (go_simp; rfl)); intro w36 hw; have hg : wr.grownBy w36 (some go32) := (by rw [hw]; exact HP35.2); have hp_ : Kd.R (Kd.int .u32) 43 w36 w.heap.size (fun k_ => some k_ ≠ (.slice Ao34 t650.length co34 : Value).ownBlock) (.slice (some ⟨go32, 0, none⟩) x6_1.length co33) y666 := (by rw [hw, Ny666.out]; exact HP35.1); clear HP35; have n0_ := Aside0.mk (hp_); have n1_ := Aside0.mk (Kd.R_after (v := (.slice (some ⟨go32, 0, none⟩) x6_1.length co33)) (v1 := (.slice (some ⟨go32, 0, none⟩) x6_1.length co33)) (ok := (fun _ => True)) (by (with_reducible repeat (first | apply Kd.R_alloc | apply Kd.R_drewN | apply Kd.R_drew)); exact Kd.R_mono HO_7.out (fun _ hk => ⟨trivial, hk⟩)) hg (.inl rfl)); have n2_ := Aside0.mk ((by rw [hw]; exact below_set (HB.out) GB32.out : Below w.heap.size w w36)); clear HO_6; clear HO_7; clear HB; have HO_6 := n0_; have HO_7 := n1_; have HB := n2_; clear n0_ n1_ n2_; clear hg hw hp_))
        go_roundg k1
        case measure => have := HK1.out; omega
        case rel => exact ⟨(y666), (0), (wrap64 (x9_1 + 1)), (by first | rfl | (simp [*]; done)), (by first | rfl | (simp [*]; done)), H', ⟨by have := HK1.out; omega⟩, ⟨by (with_reducible repeat (first | apply Kd.R_alloc | apply Kd.R_drewN | apply Kd.R_drew)); exact HO_6.out⟩, ⟨by (with_reducible repeat (first | apply Kd.R_alloc | apply Kd.R_drewN | apply Kd.R_drew)); exact Kd.R_mono HO_7.out (fun _ hk => hk.2)⟩, ⟨by repeat (first | (with_reducible first | exact HB.out | apply below_alloc | apply pw_below_drewN | apply below_drew1) | exact HB.out)⟩⟩
      ·
       rw [if_neg c25] at H
       exact absurd H (by simp)
    ·
     rw [if_neg c11] at H
     have c11b0 : decide (x9_1 < (x6_1.length : Int)) = false := decide_eq_false c11
     clear c11
     replace H := Option.bind_eq_some_iff.mp H
     obtain ⟨t653, A370, H⟩ := H
     replace H : (some (t653, true)) = some (r1, r2) := H
     have A37 := Aside0.mk A370
     clear A370
     simp only [Option.some.injEq, Prod.mk.injEq] at H
     obtain ⟨rfl, rfl⟩ := H
     obtain ⟨Ao38, co38, eo38⟩ := Kd.R_slice HO_6.out
     subst eo38
     go_wp2_with (first | ((with_reducible refine gate_callee (f := 35) rfl ?_); refine goesL_ (some 59) rfl rfl Try.func35 (by kernel_rfl) rfl #[.slice Ao38 x6_1.length co38] rfl (by first | rfl | (go_simp; first | done | rfl | ((try simp only [IntKind.wrap_u8, IntKind.wrap_u32, IntKind.wrap_u64]); omega))) ?_; (with_reducible refine (credenceref1_NatNorm.calls k1 _ _ x6_1 t653 _ ?side1 ?side2 A37.out).mono ?_); (case side1 => repeat first | exact (Kd.R_reads' HO_6.out).2.2 | refine Kd.C_drewN ?_ _ | refine Kd.C_alloc ?_ _ | refine Kd.C_drew ?_); (case side2 => exact (Kd.R_reads' HO_6.out).2.1); rintro e w39 ⟨v654, rfl, ho0, hb⟩; refine ⟨_, rfl, ?_⟩; have n0_ := Aside0.mk (Kd.R_elder' (zr HO_6 rfl) (Kd.R_base ho0) hb); have n1_ := Aside0.mk (Kd.R_elder' (zr HO_7 rfl) (Kd.R_base ho0) hb); have n2_ := Aside0.mk (Kd.R_lower (Kd.R_new' (Kd.R_new' ho0 (Kd.R_lt (zr HO_6 rfl))) (Kd.R_lt (zr HO_7 rfl))) (below_size (zb HB rfl))); have n3_ := Aside0.mk (below_step (zb HB rfl) hb); clear HO_6; clear HO_7; clear HB; have HO_6 := n0_; have HO_7 := n1_; have HO655 := n2_; have HB := n3_; clear n0_ n1_ n2_ n3_))
     go_ret2
     exact ⟨_, by first | rfl | (simp [*, errW_none, errW_some] <;> rfl), by (with_reducible repeat (first | apply Kd.R_alloc | apply Kd.R_drewN | apply Kd.R_drew)); exact Kd.R_mono HO655.out (fun _ hk => trivial), by repeat (first | (with_reducible first | exact HB.out | apply below_alloc | apply pw_below_drewN | apply below_drew1) | exact HB.out)⟩

def credenceref1_double.l0 : Nat → List Int → Int → List Int → Int → Option (List Int)
 | 0, _, _, _, _ => none
 | k + 1, x0, x1, x5, x6 => if x6 < (x0.length : Int) then (if 0 ≤ x6 then (if x5.length < 35184372088832 then (credenceref1_double.l0 k x0 ((rd x0 x6) / 2147483648) (x5 ++ [Go.bits .or .u32 (((rd x0 x6) * 2) % 4294967296) x1]) (wrap64 (x6 + 1))) else (none)) else (none)) else (if x5.length < 35184372088832 then ((credenceref1_NatNorm.f k (x5 ++ [x1])).bind fun t675 => (some t675)) else (none))
def credenceref1_double.f (k : Nat) (l0 : List Int) (a1 : Int) : Option (List Int) := credenceref1_double.l0 k l0 a1 ([] : List Int) 0
theorem credenceref1_double.mono_l : ∀ k, (∀ y0 y1 y2 y3, LeO (credenceref1_double.l0 k y0 y1 y2 y3) (credenceref1_double.l0 (k + 1) y0 y1 y2 y3))
 | 0 => fun _ _ _ _ r h => by simp [credenceref1_double.l0] at h
 | k + 1 => by
  have ih0 := credenceref1_double.mono_l k
  ·
   intro y0 y1 y2 y3
   unfold credenceref1_double.l0
   repeat' first
   | (with_reducible exact ih0 _ _ _ _)
   | (with_reducible exact credenceref1_NatNorm.mono _ _)
   | (with_reducible exact LeO.refl _)
   | (with_reducible exact LeO.none _)
   | (with_reducible refine LeO.ite ?_ ?_)
   | (with_reducible refine LeO.bind ?_ (fun _ => ?_))
   | exact ih0 _ _ _ _
   | exact credenceref1_NatNorm.mono _ _
   | exact LeO.none _
   | refine LeO.ite ?_ ?_
   | refine LeO.bind ?_ (fun _ => ?_)
theorem credenceref1_double.mono : ∀ a0 a1 k, LeO (credenceref1_double.f k a0 a1) (credenceref1_double.f (k + 1) a0 a1) := by
 intro a0 a1 k
 have ih0 := credenceref1_double.mono_l k
 unfold credenceref1_double.f
 repeat' first
   | (with_reducible exact ih0 _ _ _ _)
   | (with_reducible exact credenceref1_NatNorm.mono _ _)
   | (with_reducible exact LeO.refl _)
   | (with_reducible exact LeO.none _)
   | (with_reducible refine LeO.ite ?_ ?_)
   | (with_reducible refine LeO.bind ?_ (fun _ => ?_))
   | exact ih0 _ _ _ _
   | exact credenceref1_NatNorm.mono _ _
   | exact LeO.none _
   | refine LeO.ite ?_ ?_
   | refine LeO.bind ?_ (fun _ => ?_)
set_option maxHeartbeats 8000000 in
set_option maxRecDepth 100000 in
theorem credenceref1_double.calls (k : Nat) (A0 : Option Addr) (c0 : Nat) (l0 : List Int) (a1 : Int) (r : List Int) (w : World) (hr0 : Kd.C (Kd.int .u32) w A0 l0.length l0) (hc0 : l0.length ≤ c0) (h : credenceref1_double.f k l0 a1 = some r) :
  Calls Try.prog 51 #[.slice A0 l0.length c0, .int .u32 a1] w fun e w' => ∃ v0_ : Value, e = .returned (v0_) ∧ Kd.R (Kd.int .u32) 43 w' w.heap.size (fun _ => True) v0_ r ∧ Below w.heap.size w w' := by
 have HR0 := Aside0.mk hr0
 have HC0 := Aside0.mk hc0
 clear hr0 hc0
 have HB := Aside0.mk (Below.refl w.heap.size w)
 have H : (credenceref1_double.l0 k l0 a1 ([] : List Int) 0) = some r := h
 clear h
 have H' := Aside0.mk H
 clear H
 go_enter Try.func51, Try.ntmps51
 go_wp2
 go_loopg [1, 5, 6] k (fun kq v1 v5 v6 w' => ∃ (x1_1 : Int) (x5_1 : List Int) (x6_1 : Int), v1 = .int .u32 x1_1 ∧ v6 = .int .i64 x6_1 ∧ Aside0 (credenceref1_double.l0 kq l0 x1_1 x5_1 x6_1 = some r) ∧ Aside0 (kq ≤ k) ∧ Aside0 (Kd.R (Kd.int .u32) 43 w' w.heap.size (fun _ => True) v5 x5_1) ∧ Aside0 (Below w.heap.size w w'))
 case atStart => exact ⟨(a1), (([] : List Int)), (0), (by first | rfl | (simp [*]; done)), (by first | rfl | (simp [*]; done)), H', ⟨Nat.le_refl _⟩, ⟨by first | exact Kd.R_nil _ _ _ _ _ | exact Kd.V_nil _ _ _ _ _⟩, ⟨by repeat (first | (with_reducible first | exact HB.out | apply below_alloc | apply pw_below_drewN | apply below_drew1) | exact HB.out)⟩⟩
 case round =>
  clear H'
  try clear p2
  obtain ⟨x1_1, x5_1, x6_1, rfl, rfl, HA, HK1, HO_5, HB⟩ := hrel
  cases gk with
  | zero => exact absurd HA.out (by simp [credenceref1_double.l0])
  | succ k1 =>
   have H := HA.out
   clear HA
   simp only [credenceref1_double.l0] at H
   by_cases c3 : x6_1 < (l0.length : Int)
   ·
    rw [if_pos c3] at H
    have c3b0 : decide (x6_1 < (l0.length : Int)) = true := decide_eq_true c3
    clear c3
    by_cases c4 : 0 ≤ x6_1
    ·
     rw [if_pos c4] at H
     have c4b0 : decide (0 ≤ x6_1) = true := decide_eq_true c4
     clear c4
     by_cases c5 : x5_1.length < 35184372088832
     ·
      rw [if_pos c5] at H
      have LMc5 := Aside0.mk c5
      clear c5
      obtain ⟨y668, hy668⟩ : ∃ y_ : List Int, y_ = (x5_1 ++ [Go.bits .or .u32 (((rd l0 x6_1) * 2) % 4294967296) x1_1]) := ⟨_, rfl⟩
      replace H : (credenceref1_double.l0 k1 l0 ((rd l0 x6_1) / 2147483648) y668 (wrap64 (x6_1 + 1))) = some r := by first | (rw [hy668]; with_reducible exact H) | (have H2_ := (Option.bind_some _ _).symm.trans H; rw [hy668]; with_reducible exact H2_) | (have H2_ := (Option.bind_some _ _).symm.trans H; with_reducible exact H2_) | with_reducible exact H | (rw [hy668]; exact H) | exact H
      have Ny668 := Aside0.mk hy668
      clear hy668
      have H' := Aside0.mk H
      clear H
      have p667 : 0 ≤ (x6_1 : Int) := of_decide_eq_true (by first | (with_reducible assumption) | assumption)
      have q667 : x6_1 < (l0.length : Int) := of_decide_eq_true (by first | (with_reducible assumption) | assumption)
      obtain ⟨ad667, e667, hx667_0⟩ := Kd.at_int HR0.out x6_1 p667 q667
      cases e667
      replace hx667_0 := (HB.out.cell (World.block_lt_of_cell? w _ hx667_0)).trans hx667_0
      replace p667 := eq_true p667
      replace q667 := eq_true q667
      go_wp2_with (first | ((with_reducible refine gate_builtin (b := .append) (xs := #[.tmp 13, .tmp 21]) rfl ?_); at_builtin; refine Kd.R_append (Kd.int .u32) (w0 := w) w.heap.size rfl (.tmp 13) (.tmp 21) 23 43 (.int .u32 0) 4 rfl Try.underlying23 info43 rfl (by decide) (by omega) u5 x5_1 (Go.bits .or .u32 (((rd l0 x6_1) * 2) % 4294967296) x1_1) [.int .u32 (Go.bits .or .u32 (((rd l0 x6_1) * 2) % 4294967296) x1_1)] (fun _ => True) (fun _ => False) rfl rfl ?aP (fun _ hk => hk.elim) ?aF ?aO ?aB ?aS ?aL ?_; (case aP => exact rfl); (case aB => exact (by repeat (first | (with_reducible first | exact HB.out | apply below_alloc | apply pw_below_drewN | apply below_drew1) | exact HB.out))); (case aF => exact (fun _ _ => trivial)); (case aO => exact (by (with_reducible repeat (first | apply Kd.R_alloc | apply Kd.R_drewN | apply Kd.R_drew)); exact HO_5.out)); (case aS => exact (below_size (by repeat (first | (with_reducible first | exact HB.out | apply below_alloc | apply pw_below_drewN | apply below_drew1) | exact HB.out)))); (case aL => have := LMc5.out; omega); intro v669 w6 ho hb hg hat; rw [← Ny668.out] at ho; have n0_ := Aside0.mk (hb); have n1_ := Aside0.mk (ho); clear HB; clear HO_5; have HB := n0_; have HO670 := n1_; clear n0_ n1_; clear ho hb hg hat; have p671 : 0 ≤ (x6_1 : Int) := of_decide_eq_true (by first | (with_reducible assumption) | assumption); have q671 : x6_1 < (l0.length : Int) := of_decide_eq_true (by first | (with_reducible assumption) | assumption); obtain ⟨ad671, e671, hx671_0⟩ := Kd.at_int HR0.out x6_1 p671 q671; obtain rfl : ad667 = ad671 := (by injection e671); replace hx671_0 := (HB.out.cell (World.block_lt_of_cell? w _ hx671_0)).trans hx671_0; replace p671 := eq_true p671; replace q671 := eq_true q671))
      go_roundg k1
      case measure => have := HK1.out; omega
      case rel => exact ⟨((rd l0 x6_1) / 2147483648), (y668), (wrap64 (x6_1 + 1)), (by first | rfl | (simp [*]; done)), (by first | rfl | (simp [*]; done)), H', ⟨by have := HK1.out; omega⟩, ⟨by (with_reducible repeat (first | apply Kd.R_alloc | apply Kd.R_drewN | apply Kd.R_drew)); exact HO670.out⟩, ⟨by repeat (first | (with_reducible first | exact HB.out | apply below_alloc | apply pw_below_drewN | apply below_drew1) | exact HB.out)⟩⟩
     ·
      rw [if_neg c5] at H
      exact absurd H (by simp)
    ·
     rw [if_neg c4] at H
     exact absurd H (by simp)
   ·
    rw [if_neg c3] at H
    have c3b0 : decide (x6_1 < (l0.length : Int)) = false := decide_eq_false c3
    clear c3
    by_cases c7 : x5_1.length < 35184372088832
    ·
     rw [if_pos c7] at H
     have LMc7 := Aside0.mk c7
     clear c7
     obtain ⟨y672, hy672⟩ : ∃ y_ : List Int, y_ = (x5_1 ++ [x1_1]) := ⟨_, rfl⟩
     replace H : ((credenceref1_NatNorm.f k1 y672).bind fun t675 => (some t675)) = some r := by first | (rw [hy672]; with_reducible exact H) | (have H2_ := (Option.bind_some _ _).symm.trans H; rw [hy672]; with_reducible exact H2_) | (have H2_ := (Option.bind_some _ _).symm.trans H; with_reducible exact H2_) | with_reducible exact H | (rw [hy672]; exact H) | exact H
     have Ny672 := Aside0.mk hy672
     clear hy672
     replace H := Option.bind_eq_some_iff.mp H
     obtain ⟨t675, A80, H⟩ := H
     replace H : (some t675) = some r := H
     have A8 := Aside0.mk A80
     clear A80
     obtain rfl := Option.some.inj H
     go_wp2_with (first | ((with_reducible refine gate_builtin (b := .append) (xs := #[.tmp 28, .tmp 30]) rfl ?_); at_builtin; refine Kd.R_append (Kd.int .u32) (w0 := w) w.heap.size rfl (.tmp 28) (.tmp 30) 23 43 (.int .u32 0) 4 rfl Try.underlying23 info43 rfl (by decide) (by omega) u5 x5_1 x1_1 [.int .u32 x1_1] (fun _ => True) (fun _ => False) rfl rfl ?aP (fun _ hk => hk.elim) ?aF ?aO ?aB ?aS ?aL ?_; (case aP => exact rfl); (case aB => exact (by repeat (first | (with_reducible first | exact HB.out | apply below_alloc | apply pw_below_drewN | apply below_drew1) | exact HB.out))); (case aF => exact (fun _ _ => trivial)); (case aO => exact (by (with_reducible repeat (first | apply Kd.R_alloc | apply Kd.R_drewN | apply Kd.R_drew)); exact HO_5.out)); (case aS => exact (below_size (by repeat (first | (with_reducible first | exact HB.out | apply below_alloc | apply pw_below_drewN | apply below_drew1) | exact HB.out)))); (case aL => have := LMc7.out; omega); intro v673 w9 ho hb hg hat; rw [← Ny672.out] at ho; have n0_ := Aside0.mk (hb); have n1_ := Aside0.mk (ho); clear HB; clear HO_5; have HB := n0_; have HO674 := n1_; clear n0_ n1_; clear ho hb hg hat; obtain ⟨Ao10, co10, eo10⟩ := Kd.R_slice HO674.out; subst eo10) | ((with_reducible refine gate_callee (f := 35) rfl ?_); refine goesL_ (some 32) rfl rfl Try.func35 (by kernel_rfl) rfl #[.slice Ao10 y672.length co10] rfl (by first | rfl | (go_simp; first | done | rfl | ((try simp only [IntKind.wrap_u8, IntKind.wrap_u32, IntKind.wrap_u64]); omega))) ?_; (with_reducible refine (credenceref1_NatNorm.calls k1 _ _ y672 t675 _ ?side1 ?side2 A8.out).mono ?_); (case side1 => repeat first | exact (Kd.R_reads' HO674.out).2.2 | refine Kd.C_drewN ?_ _ | refine Kd.C_alloc ?_ _ | refine Kd.C_drew ?_); (case side2 => exact (Kd.R_reads' HO674.out).2.1); rintro e w11 ⟨v676, rfl, ho0, hb⟩; refine ⟨_, rfl, ?_⟩; have n0_ := Aside0.mk (Kd.R_elder' (zr HO674 rfl) (Kd.R_base ho0) hb); have n1_ := Aside0.mk (Kd.R_lower (Kd.R_new' ho0 (Kd.R_lt (zr HO674 rfl))) (below_size (zb HB rfl))); have n2_ := Aside0.mk (below_step (zb HB rfl) hb); clear HO674; clear HB; have HO674 := n0_; have HO677 := n1_; have HB := n2_; clear n0_ n1_ n2_))
     go_ret
     exact ⟨_, by first | rfl | (simp [*, errW_none, errW_some] <;> rfl), by (with_reducible repeat (first | apply Kd.R_alloc | apply Kd.R_drewN | apply Kd.R_drew)); exact Kd.R_mono HO677.out (fun _ hk => trivial), by repeat (first | (with_reducible first | exact HB.out | apply below_alloc | apply pw_below_drewN | apply below_drew1) | exact HB.out)⟩
    ·
     rw [if_neg c7] at H
     exact absurd H (by simp)

def credenceref1_NatDivMod.l0 : Nat → List Int → List Int → List Int → List Int → Int → Option (List Int × List Int × Bool)
 | 0, _, _, _, _, _ => none
 | k + 1, x7, x8, x9, x10, x11 => if x11 ≥ 0 then (if 0 ≤ (wrap64 (Int.tdiv x11 32)) then (if (wrap64 (Int.tdiv x11 32)) < (x7.length : Int) then (if 0 ≤ (IntKind.u64.wrap (Int.tmod x11 32)) then ((credenceref1_double.f k x10 (Go.bits .and .u32 (shr .u32 (rd x7 (wrap64 (Int.tdiv x11 32))) (IntKind.u64.wrap (Int.tmod x11 32))) 1)).bind fun t694 => ((credenceref1_NatCmp.f k t694 x8).bind fun t697 => (if t697 ≥ 0 then ((credenceref1_NatSub.f k t694 x8).bind fun bt698 => (if (wrap64 (Int.tdiv x11 32)) < (x9.length : Int) then (credenceref1_NatDivMod.l0 k x7 x8 (x9.set ((wrap64 (Int.tdiv x11 32)) : Int).toNat (Go.bits .or .u32 (rd x9 (wrap64 (Int.tdiv x11 32))) (shl .u32 1 (IntKind.u64.wrap (Int.tmod x11 32))))) bt698.1 (wrap64 (x11 - 1))) else (none))) else (credenceref1_NatDivMod.l0 k x7 x8 x9 t694 (wrap64 (x11 - 1)))))) else (none)) else (none)) else (none)) else ((credenceref1_NatNorm.f k x9).bind fun t687 => ((credenceref1_NatNorm.f k x10).bind fun t690 => (some (t687, t690, true))))
def credenceref1_NatDivMod.f (k : Nat) (l0 : List Int) (l1 : List Int) : Option (List Int × List Int × Bool) := (credenceref1_NatNorm.f k l0).bind fun t678 => ((credenceref1_NatNorm.f k l1).bind fun t681 => (if (t681.length : Int) = 0 then (some (([] : List Int), ([] : List Int), false)) else (if 0 ≤ (t678.length : Int) then (if ((t678.length : Int) : Int).toNat ≤ 70368744177664 then (credenceref1_NatDivMod.l0 k t678 t681 (List.replicate ((t678.length : Int) : Int).toNat 0) ([] : List Int) (wrap64 ((wrap64 (32 * (t678.length : Int))) - 1))) else (none)) else (none))))
theorem credenceref1_NatDivMod.mono_l : ∀ k, (∀ y0 y1 y2 y3 y4, LeO (credenceref1_NatDivMod.l0 k y0 y1 y2 y3 y4) (credenceref1_NatDivMod.l0 (k + 1) y0 y1 y2 y3 y4))
 | 0 => fun _ _ _ _ _ r h => by simp [credenceref1_NatDivMod.l0] at h
 | k + 1 => by
  have ih0 := credenceref1_NatDivMod.mono_l k
  ·
   intro y0 y1 y2 y3 y4
   unfold credenceref1_NatDivMod.l0
   repeat' first
   | (with_reducible exact ih0 _ _ _ _ _)
   | (with_reducible exact credenceref1_NatCmp.mono _ _ _)
   | (with_reducible exact credenceref1_NatNorm.mono _ _)
   | (with_reducible exact credenceref1_NatSub.mono _ _ _)
   | (with_reducible exact credenceref1_double.mono _ _ _)
   | (with_reducible exact LeO.refl _)
   | (with_reducible exact LeO.none _)
   | (with_reducible refine LeO.ite ?_ ?_)
   | (with_reducible refine LeO.bind ?_ (fun _ => ?_))
   | exact ih0 _ _ _ _ _
   | exact credenceref1_NatCmp.mono _ _ _
   | exact credenceref1_NatNorm.mono _ _
   | exact credenceref1_NatSub.mono _ _ _
   | exact credenceref1_double.mono _ _ _
   | exact LeO.none _
   | refine LeO.ite ?_ ?_
   | refine LeO.bind ?_ (fun _ => ?_)
theorem credenceref1_NatDivMod.mono : ∀ a0 a1 k, LeO (credenceref1_NatDivMod.f k a0 a1) (credenceref1_NatDivMod.f (k + 1) a0 a1) := by
 intro a0 a1 k
 have ih0 := credenceref1_NatDivMod.mono_l k
 unfold credenceref1_NatDivMod.f
 repeat' first
   | (with_reducible exact ih0 _ _ _ _ _)
   | (with_reducible exact credenceref1_NatCmp.mono _ _ _)
   | (with_reducible exact credenceref1_NatNorm.mono _ _)
   | (with_reducible exact credenceref1_NatSub.mono _ _ _)
   | (with_reducible exact credenceref1_double.mono _ _ _)
   | (with_reducible exact LeO.refl _)
   | (with_reducible exact LeO.none _)
   | (with_reducible refine LeO.ite ?_ ?_)
   | (with_reducible refine LeO.bind ?_ (fun _ => ?_))
   | exact ih0 _ _ _ _ _
   | exact credenceref1_NatCmp.mono _ _ _
   | exact credenceref1_NatNorm.mono _ _
   | exact credenceref1_NatSub.mono _ _ _
   | exact credenceref1_double.mono _ _ _
   | exact LeO.none _
   | refine LeO.ite ?_ ?_
   | refine LeO.bind ?_ (fun _ => ?_)
set_option maxHeartbeats 8000000 in
set_option maxRecDepth 100000 in
theorem credenceref1_NatDivMod.calls (k : Nat) (A0 : Option Addr) (c0 : Nat) (l0 : List Int) (A1 : Option Addr) (c1 : Nat) (l1 : List Int) (r1 : List Int) (r2 : List Int) (r3 : Bool) (w : World) (hr0 : Kd.C (Kd.int .u32) w A0 l0.length l0) (hc0 : l0.length ≤ c0) (hr1 : Kd.C (Kd.int .u32) w A1 l1.length l1) (hc1 : l1.length ≤ c1) (h : credenceref1_NatDivMod.f k l0 l1 = some (r1, r2, r3)) :
  Calls Try.prog 27 #[.slice A0 l0.length c0, .slice A1 l1.length c1] w fun e w' => ∃ v0_ v1_ : Value, e = .returned (.tuple #[v0_, v1_, .bool r3]) ∧ Kd.R (Kd.int .u32) 43 w' w.heap.size (fun k_ => some k_ ≠ (v1_ : Value).ownBlock) v0_ r1 ∧ Kd.R (Kd.int .u32) 43 w' w.heap.size (fun k_ => some k_ ≠ (v0_ : Value).ownBlock) v1_ r2 ∧ Below w.heap.size w w' := by
 have HR0 := Aside0.mk hr0
 have HC0 := Aside0.mk hc0
 clear hr0 hc0
 have HR1 := Aside0.mk hr1
 have HC1 := Aside0.mk hc1
 clear hr1 hc1
 have HB := Aside0.mk (Below.refl w.heap.size w)
 have H : ((credenceref1_NatNorm.f k l0).bind fun t678 => ((credenceref1_NatNorm.f k l1).bind fun t681 => (if (t681.length : Int) = 0 then (some (([] : List Int), ([] : List Int), false)) else (if 0 ≤ (t678.length : Int) then (if ((t678.length : Int) : Int).toNat ≤ 70368744177664 then (credenceref1_NatDivMod.l0 k t678 t681 (List.replicate ((t678.length : Int) : Int).toNat 0) ([] : List Int) (wrap64 ((wrap64 (32 * (t678.length : Int))) - 1))) else (none)) else (none))))) = some (r1, r2, r3) := h
 clear h
 replace H := Option.bind_eq_some_iff.mp H
 obtain ⟨t678, A30, H⟩ := H
 replace H : ((credenceref1_NatNorm.f k l1).bind fun t681 => (if (t681.length : Int) = 0 then (some (([] : List Int), ([] : List Int), false)) else (if 0 ≤ (t678.length : Int) then (if ((t678.length : Int) : Int).toNat ≤ 70368744177664 then (credenceref1_NatDivMod.l0 k t678 t681 (List.replicate ((t678.length : Int) : Int).toNat 0) ([] : List Int) (wrap64 ((wrap64 (32 * (t678.length : Int))) - 1))) else (none)) else (none)))) = some (r1, r2, r3) := H
 have A3 := Aside0.mk A30
 clear A30
 replace H := Option.bind_eq_some_iff.mp H
 obtain ⟨t681, A40, H⟩ := H
 replace H : (if (t681.length : Int) = 0 then (some (([] : List Int), ([] : List Int), false)) else (if 0 ≤ (t678.length : Int) then (if ((t678.length : Int) : Int).toNat ≤ 70368744177664 then (credenceref1_NatDivMod.l0 k t678 t681 (List.replicate ((t678.length : Int) : Int).toNat 0) ([] : List Int) (wrap64 ((wrap64 (32 * (t678.length : Int))) - 1))) else (none)) else (none))) = some (r1, r2, r3) := H
 have A4 := Aside0.mk A40
 clear A40
 by_cases c5 : (t681.length : Int) = 0
 ·
  rw [if_pos c5] at H
  have c5b0 : ((t681.length : Int) == 0) = true := beq_iff_eq.mpr c5
  have c5b1 : ((t681.length : Int) != 0) = false := bne_eq_false_iff_eq.mpr c5
  clear c5
  simp only [Option.some.injEq, Prod.mk.injEq] at H
  obtain ⟨rfl, rfl, rfl⟩ := H
  go_enter Try.func27, Try.ntmps27
  go_wp2_with (first | ((with_reducible refine gate_callee (f := 35) rfl ?_); refine goesL_ (some 13) rfl rfl Try.func35 (by kernel_rfl) rfl #[.slice A0 l0.length c0] rfl (by first | rfl | (go_simp; first | done | rfl | ((try simp only [IntKind.wrap_u8, IntKind.wrap_u32, IntKind.wrap_u64]); omega))) ?_; (with_reducible refine (credenceref1_NatNorm.calls k _ _ l0 t678 _ ?side1 ?side2 A3.out).mono ?_); (case side1 => repeat first | exact HR0.out | refine Kd.C_drewN ?_ _ | refine Kd.C_alloc ?_ _ | refine Kd.C_drew ?_); (case side2 => exact HC0.out); rintro e w6 ⟨v679, rfl, ho0, hb⟩; refine ⟨_, rfl, ?_⟩; have n0_ := Aside0.mk (Kd.R_lower ho0 (below_size (zb HB rfl))); have n1_ := Aside0.mk (below_step (zb HB rfl) hb); clear HB; have HO680 := n0_; have HB := n1_; clear n0_ n1_) | ((with_reducible refine gate_callee (f := 35) rfl ?_); refine goesL_ (some 15) rfl rfl Try.func35 (by kernel_rfl) rfl #[.slice A1 l1.length c1] rfl (by first | rfl | (go_simp; first | done | rfl | ((try simp only [IntKind.wrap_u8, IntKind.wrap_u32, IntKind.wrap_u64]); omega))) ?_; (with_reducible refine (credenceref1_NatNorm.calls k _ _ l1 t681 _ ?side1 ?side2 A4.out).mono ?_); (case side1 => repeat first | exact (Kd.C_below HR1.out HB.out) | refine Kd.C_drewN ?_ _ | refine Kd.C_alloc ?_ _ | refine Kd.C_drew ?_); (case side2 => exact HC1.out); rintro e w7 ⟨v682, rfl, ho0, hb⟩; refine ⟨_, rfl, ?_⟩; have n0_ := Aside0.mk (Kd.R_elder' (zr HO680 rfl) (Kd.R_base ho0) hb); have n1_ := Aside0.mk (Kd.R_lower (Kd.R_new' ho0 (Kd.R_lt (zr HO680 rfl))) (below_size (zb HB rfl))); have n2_ := Aside0.mk (below_step (zb HB rfl) hb); clear HO680; clear HB; have HO680 := n0_; have HO683 := n1_; have HB := n2_; clear n0_ n1_ n2_; obtain ⟨Ao8, co8, eo8⟩ := Kd.R_slice HO683.out; subst eo8))
  go_ret3
  exact ⟨_, _, by first | rfl | (simp [*, errW_none, errW_some] <;> rfl), by first | exact Kd.R_nil _ _ _ _ _ | exact Kd.V_nil _ _ _ _ _, by first | exact Kd.R_nil _ _ _ _ _ | exact Kd.V_nil _ _ _ _ _, by repeat (first | (with_reducible first | exact HB.out | apply below_alloc | apply pw_below_drewN | apply below_drew1) | exact HB.out)⟩
 ·
  rw [if_neg c5] at H
  have c5b0 : ((t681.length : Int) == 0) = false := beq_eq_false_iff_ne.mpr c5
  have c5b1 : ((t681.length : Int) != 0) = true := bne_iff_ne.mpr c5
  have c5b2 : ¬ (t681 = []) := fun h_ => c5 (by rw [h_]; rfl)
  by_cases c9 : 0 ≤ (t678.length : Int)
  ·
   rw [if_pos c9] at H
   have c9b0 := eq_true c9
   have c9b1 : decide (0 ≤ (t678.length : Int)) = true := decide_eq_true c9
   clear c9
   by_cases c10 : ((t678.length : Int) : Int).toNat ≤ 70368744177664
   ·
    rw [if_pos c10] at H
    have c10b0 := eq_true c10
    have c10b1 : decide (((t678.length : Int) : Int).toNat ≤ 70368744177664) = true := decide_eq_true c10
    clear c10
    obtain ⟨y684, hy684⟩ : ∃ y_ : List Int, y_ = (List.replicate ((t678.length : Int) : Int).toNat 0) := ⟨_, rfl⟩
    replace H : (credenceref1_NatDivMod.l0 k t678 t681 y684 ([] : List Int) (wrap64 ((wrap64 (32 * (t678.length : Int))) - 1))) = some (r1, r2, r3) := by first | (rw [hy684]; with_reducible exact H) | (have H2_ := (Option.bind_some _ _).symm.trans H; rw [hy684]; with_reducible exact H2_) | (have H2_ := (Option.bind_some _ _).symm.trans H; with_reducible exact H2_) | with_reducible exact H | (rw [hy684]; exact H) | exact H
    have Ny684 := Aside0.mk hy684
    clear hy684
    have H' := Aside0.mk H
    clear H
    go_enter Try.func27, Try.ntmps27
    go_wp2_with (first | ((with_reducible refine gate_callee (f := 35) rfl ?_); refine goesL_ (some 13) rfl rfl Try.func35 (by kernel_rfl) rfl #[.slice A0 l0.length c0] rfl (by first | rfl | (go_simp; first | done | rfl | ((try simp only [IntKind.wrap_u8, IntKind.wrap_u32, IntKind.wrap_u64]); omega))) ?_; (with_reducible refine (credenceref1_NatNorm.calls k _ _ l0 t678 _ ?side1 ?side2 A3.out).mono ?_); (case side1 => repeat first | exact HR0.out | refine Kd.C_drewN ?_ _ | refine Kd.C_alloc ?_ _ | refine Kd.C_drew ?_); (case side2 => exact HC0.out); rintro e w11 ⟨v679, rfl, ho0, hb⟩; refine ⟨_, rfl, ?_⟩; have n0_ := Aside0.mk (Kd.R_lower ho0 (below_size (zb HB rfl))); have n1_ := Aside0.mk (below_step (zb HB rfl) hb); clear HB; have HO680 := n0_; have HB := n1_; clear n0_ n1_) | ((with_reducible refine gate_callee (f := 35) rfl ?_); refine goesL_ (some 15) rfl rfl Try.func35 (by kernel_rfl) rfl #[.slice A1 l1.length c1] rfl (by first | rfl | (go_simp; first | done | rfl | ((try simp only [IntKind.wrap_u8, IntKind.wrap_u32, IntKind.wrap_u64]); omega))) ?_; (with_reducible refine (credenceref1_NatNorm.calls k _ _ l1 t681 _ ?side1 ?side2 A4.out).mono ?_); (case side1 => repeat first | exact (Kd.C_below HR1.out HB.out) | refine Kd.C_drewN ?_ _ | refine Kd.C_alloc ?_ _ | refine Kd.C_drew ?_); (case side2 => exact HC1.out); rintro e w12 ⟨v682, rfl, ho0, hb⟩; refine ⟨_, rfl, ?_⟩; have n0_ := Aside0.mk (Kd.R_elder' (zr HO680 rfl) (Kd.R_base ho0) hb); have n1_ := Aside0.mk (Kd.R_lower (Kd.R_new' ho0 (Kd.R_lt (zr HO680 rfl))) (below_size (zb HB rfl))); have n2_ := Aside0.mk (below_step (zb HB rfl) hb); clear HO680; clear HB; have HO680 := n0_; have HO683 := n1_; have HB := n2_; clear n0_ n1_ n2_; obtain ⟨Ao13, co13, eo13⟩ := Kd.R_slice HO683.out; subst eo13; obtain ⟨Ao14, co14, eo14⟩ := Kd.R_slice HO680.out; subst eo14) | ((with_reducible refine gate_dst (N := 21) rfl ?_); refine Kd.R_make (Kd.int .u32) _ 43 rfl (N := 21) rfl 23 _ _ rfl (t678.length : Int) rfl rfl Try.underlying23 (.int .u32 0) 4 info43 rfl (by decide) (by omega) 0 (ok := fun _ => True) (okp := fun _ => True) rfl (fun _ hk => hk) trivial (of_decide_eq_true (by first | (with_reducible assumption) | assumption)) (Nat.le_trans (Nat.mul_le_mul_right _ (of_decide_eq_true (by first | (with_reducible assumption) | assumption) : (t678.length : Int).toNat ≤ 70368744177664)) (by omega)) (Below.refl _ _) (Nat.le_refl _) ?_; intro v685 w15 ho16 hb hg_ hnew_; clear hg_ hnew_; (first | rw [← Ny684.out] at ho16 | (simp only [Int.reduceToNat] at ho16; rw [← Ny684.out] at ho16)); have n0_ := Aside0.mk (Kd.R_elder' (zr HO680 rfl) (Kd.R_base ho16) hb); have n1_ := Aside0.mk (Kd.R_elder' (zr HO683 rfl) (Kd.R_base ho16) hb); have n2_ := Aside0.mk (Kd.R_lower (Kd.R_new' (Kd.R_new' ho16 (Kd.R_lt (zr HO680 rfl))) (Kd.R_lt (zr HO683 rfl))) (below_size (zb HB rfl))); have n3_ := Aside0.mk (below_step (zb HB rfl) hb); clear HO680; clear HO683; clear HB; have HO680 := n0_; have HO683 := n1_; have HO686 := n2_; have HB := n3_; clear n0_ n1_ n2_ n3_; clear hb ho16))
    go_loopg [10, 11] k (fun kq v10 v11 w' => ∃ (x9_1 : List Int) (x10_1 : List Int) (x11_1 : Int), v11 = .int .i64 x11_1 ∧ Aside0 (credenceref1_NatDivMod.l0 kq t678 t681 x9_1 x10_1 x11_1 = some (r1, r2, r3)) ∧ Aside0 (kq ≤ k) ∧ Aside0 (Kd.R (Kd.int .u32) 43 w' w.heap.size (fun k_ => some k_ ≠ ((.slice Ao13 t681.length co13) : Value).ownBlock ∧ some k_ ≠ (v685 : Value).ownBlock ∧ some k_ ≠ (v10 : Value).ownBlock) (.slice Ao14 t678.length co14) t678) ∧ Aside0 (Kd.R (Kd.int .u32) 43 w' w.heap.size (fun k_ => some k_ ≠ ((.slice Ao14 t678.length co14) : Value).ownBlock ∧ some k_ ≠ (v685 : Value).ownBlock ∧ some k_ ≠ (v10 : Value).ownBlock) (.slice Ao13 t681.length co13) t681) ∧ Aside0 (Kd.R (Kd.int .u32) 43 w' w.heap.size (fun k_ => some k_ ≠ ((.slice Ao14 t678.length co14) : Value).ownBlock ∧ some k_ ≠ ((.slice Ao13 t681.length co13) : Value).ownBlock ∧ some k_ ≠ (v10 : Value).ownBlock) v685 x9_1) ∧ Aside0 (Kd.R (Kd.int .u32) 43 w' w.heap.size (fun k_ => some k_ ≠ ((.slice Ao14 t678.length co14) : Value).ownBlock ∧ some k_ ≠ ((.slice Ao13 t681.length co13) : Value).ownBlock ∧ some k_ ≠ (v685 : Value).ownBlock) v10 x10_1) ∧ Aside0 (Below w.heap.size w w'))
    case atStart => exact ⟨(y684), (([] : List Int)), (wrap64 ((wrap64 (32 * (t678.length : Int))) - 1)), (by first | rfl | (simp [*]; done)), H', ⟨Nat.le_refl _⟩, ⟨by (with_reducible repeat (first | apply Kd.R_alloc | apply Kd.R_drewN | apply Kd.R_drew)); exact Kd.R_mono HO680.out (fun _ hk => ⟨hk.1.2, ⟨hk.2, (by simp [Value.ownBlock])⟩⟩)⟩, ⟨by (with_reducible repeat (first | apply Kd.R_alloc | apply Kd.R_drewN | apply Kd.R_drew)); exact Kd.R_mono HO683.out (fun _ hk => ⟨hk.1.2, ⟨hk.2, (by simp [Value.ownBlock])⟩⟩)⟩, ⟨by (with_reducible repeat (first | apply Kd.R_alloc | apply Kd.R_drewN | apply Kd.R_drew)); exact Kd.R_mono HO686.out (fun _ hk => ⟨hk.1.2, ⟨hk.2, (by simp [Value.ownBlock])⟩⟩)⟩, ⟨by first | exact Kd.R_nil _ _ _ _ _ | exact Kd.V_nil _ _ _ _ _⟩, ⟨by repeat (first | (with_reducible first | exact HB.out | apply below_alloc | apply pw_below_drewN | apply below_drew1) | exact HB.out)⟩⟩
    case round =>
     clear H'
     try clear c1
     try clear c2
     try clear p2
     try clear c3
     try clear c5
     try clear c5b0
     try clear c5b1
     try clear c5b2
     try clear p6
     try clear c9
     try clear c9b0
     try clear c9b1
     try clear c10
     try clear c10b0
     try clear c10b1
     obtain ⟨x9_1, x10_1, x11_1, rfl, HA, HK1, HO_7, HO_8, HO_9, HO_10, HB⟩ := hrel
     cases gk with
     | zero => exact absurd HA.out (by simp [credenceref1_NatDivMod.l0])
     | succ k1 =>
      have H := HA.out
      clear HA
      simp only [credenceref1_NatDivMod.l0] at H
      by_cases c17 : x11_1 ≥ 0
      ·
       rw [if_pos c17] at H
       have c17b0 : decide (0 ≤ x11_1) = true := decide_eq_true c17
       clear c17
       obtain ⟨ji18, hji18⟩ : ∃ j_ : Int, (wrap64 (Int.tdiv x11_1 32)) = j_ := ⟨_, rfl⟩
       replace H : (if 0 ≤ (ji18) then (if (ji18) < (t678.length : Int) then (if 0 ≤ (IntKind.u64.wrap (Int.tmod x11_1 32)) then ((credenceref1_double.f k1 x10_1 (Go.bits .and .u32 (shr .u32 (rd t678 (ji18)) (IntKind.u64.wrap (Int.tmod x11_1 32))) 1)).bind fun t694 => ((credenceref1_NatCmp.f k1 t694 t681).bind fun t697 => (if t697 ≥ 0 then ((credenceref1_NatSub.f k1 t694 t681).bind fun bt698 => (if (ji18) < (x9_1.length : Int) then (credenceref1_NatDivMod.l0 k1 t678 t681 (x9_1.set ((ji18) : Int).toNat (Go.bits .or .u32 (rd x9_1 (ji18)) (shl .u32 1 (IntKind.u64.wrap (Int.tmod x11_1 32))))) bt698.1 (wrap64 (x11_1 - 1))) else (none))) else (credenceref1_NatDivMod.l0 k1 t678 t681 x9_1 t694 (wrap64 (x11_1 - 1)))))) else (none)) else (none)) else (none)) = some (r1, r2, r3) := by first | (rw [hji18] at H; exact H) | (simp only [hji18] at H ⊢; exact H)
       have hji18w : (IntKind.i64.wrap (Int.tdiv x11_1 32)) = ji18 := (i64_w _).trans hji18
       by_cases c19 : 0 ≤ (ji18)
       ·
        rw [if_pos c19] at H
        have c19b0 : decide (0 ≤ (ji18)) = true := decide_eq_true c19
        clear c19
        by_cases c20 : (ji18) < (t678.length : Int)
        ·
         rw [if_pos c20] at H
         have c20b0 : decide ((ji18) < (t678.length : Int)) = true := decide_eq_true c20
         clear c20
         obtain ⟨ji21, hji21⟩ : ∃ j_ : Int, (IntKind.u64.wrap (Int.tmod x11_1 32)) = j_ := ⟨_, rfl⟩
         replace H : (if 0 ≤ (ji21) then ((credenceref1_double.f k1 x10_1 (Go.bits .and .u32 (shr .u32 (rd t678 (ji18)) (ji21)) 1)).bind fun t694 => ((credenceref1_NatCmp.f k1 t694 t681).bind fun t697 => (if t697 ≥ 0 then ((credenceref1_NatSub.f k1 t694 t681).bind fun bt698 => (if (ji18) < (x9_1.length : Int) then (credenceref1_NatDivMod.l0 k1 t678 t681 (x9_1.set ((ji18) : Int).toNat (Go.bits .or .u32 (rd x9_1 (ji18)) (shl .u32 1 (ji21)))) bt698.1 (wrap64 (x11_1 - 1))) else (none))) else (credenceref1_NatDivMod.l0 k1 t678 t681 x9_1 t694 (wrap64 (x11_1 - 1)))))) else (none)) = some (r1, r2, r3) := by first | (rw [hji21] at H; exact H) | (simp only [hji21] at H ⊢; exact H)
         by_cases c22 : 0 ≤ (ji21)
         ·
          rw [if_pos c22] at H
          have c22b0 := eq_true c22
          have c22b1 : decide (0 ≤ (ji21)) = true := decide_eq_true c22
          clear c22
          obtain ⟨ji23, hji23⟩ : ∃ j_ : Int, (shr .u32 (rd t678 (ji18)) (ji21)) = j_ := ⟨_, rfl⟩
          replace H : ((credenceref1_double.f k1 x10_1 (Go.bits .and .u32 (ji23) 1)).bind fun t694 => ((credenceref1_NatCmp.f k1 t694 t681).bind fun t697 => (if t697 ≥ 0 then ((credenceref1_NatSub.f k1 t694 t681).bind fun bt698 => (if (ji18) < (x9_1.length : Int) then (credenceref1_NatDivMod.l0 k1 t678 t681 (x9_1.set ((ji18) : Int).toNat (Go.bits .or .u32 (rd x9_1 (ji18)) (shl .u32 1 (ji21)))) bt698.1 (wrap64 (x11_1 - 1))) else (none))) else (credenceref1_NatDivMod.l0 k1 t678 t681 x9_1 t694 (wrap64 (x11_1 - 1)))))) = some (r1, r2, r3) := by first | (rw [hji23] at H; exact H) | (simp only [hji23] at H ⊢; exact H)
          have hji23_ : ((rd t678 (ji18)) / 2 ^ min (ji21).toNat 32) = ji23 := hji23
          have hji23z : (ji21) ≤ 32 → ((rd t678 (ji18)) / 2 ^ (ji21).toNat) = ji23 := shr_small hji23
          replace H := Option.bind_eq_some_iff.mp H
          obtain ⟨t694, A240, H⟩ := H
          replace H : ((credenceref1_NatCmp.f k1 t694 t681).bind fun t697 => (if t697 ≥ 0 then ((credenceref1_NatSub.f k1 t694 t681).bind fun bt698 => (if (ji18) < (x9_1.length : Int) then (credenceref1_NatDivMod.l0 k1 t678 t681 (x9_1.set ((ji18) : Int).toNat (Go.bits .or .u32 (rd x9_1 (ji18)) (shl .u32 1 (ji21)))) bt698.1 (wrap64 (x11_1 - 1))) else (none))) else (credenceref1_NatDivMod.l0 k1 t678 t681 x9_1 t694 (wrap64 (x11_1 - 1))))) = some (r1, r2, r3) := H
          have A24 := Aside0.mk A240
          clear A240
          replace H := Option.bind_eq_some_iff.mp H
          obtain ⟨t697, A250, H⟩ := H
          replace H : (if t697 ≥ 0 then ((credenceref1_NatSub.f k1 t694 t681).bind fun bt698 => (if (ji18) < (x9_1.length : Int) then (credenceref1_NatDivMod.l0 k1 t678 t681 (x9_1.set ((ji18) : Int).toNat (Go.bits .or .u32 (rd x9_1 (ji18)) (shl .u32 1 (ji21)))) bt698.1 (wrap64 (x11_1 - 1))) else (none))) else (credenceref1_NatDivMod.l0 k1 t678 t681 x9_1 t694 (wrap64 (x11_1 - 1)))) = some (r1, r2, r3) := H
          have A25 := Aside0.mk A250
          clear A250
          by_cases c26 : t697 ≥ 0
          ·
           rw [if_pos c26] at H
           have c26b0 : decide (0 ≤ t697) = true := decide_eq_true c26
           clear c26
           replace H := Option.bind_eq_some_iff.mp H
           obtain ⟨⟨t698, t699⟩, A270, H⟩ := H
           replace H : (if (ji18) < (x9_1.length : Int) then (credenceref1_NatDivMod.l0 k1 t678 t681 (x9_1.set ((ji18) : Int).toNat (Go.bits .or .u32 (rd x9_1 (ji18)) (shl .u32 1 (ji21)))) t698 (wrap64 (x11_1 - 1))) else (none)) = some (r1, r2, r3) := H
           have A27 := Aside0.mk A270
           clear A270
           by_cases c28 : (ji18) < (x9_1.length : Int)
           ·
            rw [if_pos c28] at H
            have c28b0 : decide ((ji18) < (x9_1.length : Int)) = true := decide_eq_true c28
            clear c28
            have c29b0 := eq_true (of_decide_eq_true (by first | (with_reducible assumption) | assumption) : 0 ≤ (ji21))
            obtain ⟨ji30, hji30⟩ : ∃ j_ : Int, (shl .u32 1 (ji21)) = j_ := ⟨_, rfl⟩
            replace H : (credenceref1_NatDivMod.l0 k1 t678 t681 (x9_1.set ((ji18) : Int).toNat (Go.bits .or .u32 (rd x9_1 (ji18)) (ji30))) t698 (wrap64 (x11_1 - 1))) = some (r1, r2, r3) := by first | (rw [hji30] at H; exact H) | (simp only [hji30] at H ⊢; exact H)
            (try rw [hji30] at A24)
            (try rw [hji30] at A25)
            (try rw [hji30] at A27)
            have hji30_ : (IntKind.u32.wrap (1 * 2 ^ min (ji21).toNat 32)) = ji30 := hji30
            have hji30z : (ji21) ≤ 32 → (IntKind.u32.wrap (1 * 2 ^ (ji21).toNat)) = ji30 := shl_small hji30
            have hji30u : (IntKind.u32.wrap (2 ^ min (ji21).toNat 32)) = ji30 := by have h_ := hji30_; rw [Int.one_mul] at h_; exact h_
            have hji30v : (ji21) ≤ 32 → (IntKind.u32.wrap (2 ^ (ji21).toNat)) = ji30 := fun hle_ => by have h_ := hji30z hle_; rw [Int.one_mul] at h_; exact h_
            obtain ⟨y703, hy703⟩ : ∃ y_ : List Int, y_ = (x9_1.set ((ji18) : Int).toNat (Go.bits .or .u32 (rd x9_1 (ji18)) (ji30))) := ⟨_, rfl⟩
            replace H : (credenceref1_NatDivMod.l0 k1 t678 t681 y703 t698 (wrap64 (x11_1 - 1))) = some (r1, r2, r3) := by first | (rw [hy703]; with_reducible exact H) | (have H2_ := (Option.bind_some _ _).symm.trans H; rw [hy703]; with_reducible exact H2_) | (have H2_ := (Option.bind_some _ _).symm.trans H; with_reducible exact H2_) | with_reducible exact H | (rw [hy703]; exact H) | exact H
            have Ny703 := Aside0.mk hy703
            clear hy703
            have H' := Aside0.mk H
            clear H
            have p693 : 0 ≤ ((ji18) : Int) := of_decide_eq_true (by first | (with_reducible assumption) | assumption)
            have q693 : (ji18) < (t678.length : Int) := of_decide_eq_true (by first | (with_reducible assumption) | assumption)
            obtain ⟨ad693, e693, hx693_0⟩ := Kd.at_int (Kd.R_reads' HO_7.out).2.2 (ji18) p693 q693
            cases e693
            replace p693 := eq_true p693
            replace q693 := eq_true q693
            obtain ⟨Ao32, co32, eo32⟩ := Kd.R_slice HO_10.out
            subst eo32
            go_wp2_with (first | ((with_reducible refine gate_callee (f := 51) rfl ?_); refine goesL_ (some 41) rfl rfl Try.func51 (by kernel_rfl) rfl #[.slice Ao32 x10_1.length co32, .int .u32 (Go.bits .and .u32 (ji23) 1)] rfl (by (try simp only [List.map_toArray, List.map_cons, List.map_nil]); first | done | (simp only [hji23]; rfl) | rfl | (simp only [List.length_drop, List.length_take]; rfl) | (go_simp; done) | (go_simp; rfl) | (go_simp; (try simp only [IntKind.wrap_u8, IntKind.wrap_u32, IntKind.wrap_u64]); omega)) ?_; (with_reducible refine (credenceref1_double.calls k1 _ _ x10_1 (Go.bits .and .u32 (ji23) 1) t694 _ ?side1 ?side2 A24.out).mono ?_); (case side1 => repeat first | exact (Kd.R_reads' HO_10.out).2.2 | refine Kd.C_drewN ?_ _ | refine Kd.C_alloc ?_ _ | refine Kd.C_drew ?_); (case side2 => exact (Kd.R_reads' HO_10.out).2.1); rintro e w33 ⟨v695, rfl, ho0, hb⟩; refine ⟨_, rfl, ?_⟩; have n0_ := Aside0.mk (Kd.R_elder' (zr HO_7 rfl) (Kd.R_base ho0) hb); have n1_ := Aside0.mk (Kd.R_elder' (zr HO_8 rfl) (Kd.R_base ho0) hb); have n2_ := Aside0.mk (Kd.R_elder' (zr HO_9 rfl) (Kd.R_base ho0) hb); have n3_ := Aside0.mk (Kd.R_elder' (zr HO_10 rfl) (Kd.R_base ho0) hb); have n4_ := Aside0.mk (Kd.R_lower (Kd.R_new' (Kd.R_new' (Kd.R_new' (Kd.R_new' ho0 (Kd.R_lt (zr HO_7 rfl))) (Kd.R_lt (zr HO_8 rfl))) (Kd.R_lt (zr HO_9 rfl))) (Kd.R_lt (zr HO_10 rfl))) (below_size (zb HB rfl))); have n5_ := Aside0.mk (below_step (zb HB rfl) hb); clear HO_7; clear HO_8; clear HO_9; clear HO_10; clear HB; have HO_7 := n0_; have HO_8 := n1_; have HO_9 := n2_; have HO_10 := n3_; have HO696 := n4_; have HB := n5_; clear n0_ n1_ n2_ n3_ n4_ n5_; obtain ⟨Ao34, co34, eo34⟩ := Kd.R_slice HO696.out; subst eo34) | ((with_reducible refine gate_callee (f := 37) rfl ?_); refine goesL_ (some 44) rfl rfl Try.func37 (by kernel_rfl) rfl #[.slice Ao34 t694.length co34, .slice Ao13 t681.length co13] rfl (by first | rfl | (go_simp; first | done | rfl | ((try simp only [IntKind.wrap_u8, IntKind.wrap_u32, IntKind.wrap_u64]); omega))) ?_; (with_reducible refine (credenceref1_NatCmp.calls k1 _ _ t694 _ _ t681 t697 _ ?side1 ?side2 ?side3 ?side4 A25.out).mono ?_); (case side1 => repeat first | exact (Kd.R_reads' HO696.out).2.2 | refine Kd.C_drewN ?_ _ | refine Kd.C_alloc ?_ _ | refine Kd.C_drew ?_); (case side2 => exact (Kd.R_reads' HO696.out).2.1); (case side3 => repeat first | exact (Kd.R_reads' HO_8.out).2.2 | refine Kd.C_drewN ?_ _ | refine Kd.C_alloc ?_ _ | refine Kd.C_drew ?_); (case side4 => exact (Kd.R_reads' HO_8.out).2.1); rintro e w35 ⟨rfl, hb⟩; refine ⟨_, rfl, ?_⟩; have n0_ := Aside0.mk (Kd.R_below (zr HO_7 rfl) hb); have n1_ := Aside0.mk (Kd.R_below (zr HO_8 rfl) hb); have n2_ := Aside0.mk (Kd.R_below (zr HO_9 rfl) hb); have n3_ := Aside0.mk (Kd.R_below (zr HO_10 rfl) hb); have n4_ := Aside0.mk (Kd.R_below (zr HO696 rfl) hb); have n5_ := Aside0.mk (below_step (zb HB rfl) hb); clear HO_7; clear HO_8; clear HO_9; clear HO_10; clear HO696; clear HB; have HO_7 := n0_; have HO_8 := n1_; have HO_9 := n2_; have HO_10 := n3_; have HO696 := n4_; have HB := n5_; clear n0_ n1_ n2_ n3_ n4_ n5_) | ((with_reducible refine gate_callee (f := 33) rfl ?_); refine goesL_ (some 49) rfl rfl Try.func33 (by kernel_rfl) rfl #[.slice Ao34 t694.length co34, .slice Ao13 t681.length co13] rfl (by first | rfl | (go_simp; first | done | rfl | ((try simp only [IntKind.wrap_u8, IntKind.wrap_u32, IntKind.wrap_u64]); omega))) ?_; (with_reducible refine (credenceref1_NatSub.calls k1 _ _ t694 _ _ t681 t698 t699 _ ?side1 ?side2 ?side3 ?side4 A27.out).mono ?_); (case side1 => repeat first | exact (Kd.R_reads' HO696.out).2.2 | refine Kd.C_drewN ?_ _ | refine Kd.C_alloc ?_ _ | refine Kd.C_drew ?_); (case side2 => exact (Kd.R_reads' HO696.out).2.1); (case side3 => repeat first | exact (Kd.R_reads' HO_8.out).2.2 | refine Kd.C_drewN ?_ _ | refine Kd.C_alloc ?_ _ | refine Kd.C_drew ?_); (case side4 => exact (Kd.R_reads' HO_8.out).2.1); rintro e w36 ⟨v700, rfl, ho0, hb⟩; refine ⟨_, rfl, ?_⟩; have n0_ := Aside0.mk (Kd.R_elder' (zr HO_7 rfl) (Kd.R_base ho0) hb); have n1_ := Aside0.mk (Kd.R_elder' (zr HO_8 rfl) (Kd.R_base ho0) hb); have n2_ := Aside0.mk (Kd.R_elder' (zr HO_9 rfl) (Kd.R_base ho0) hb); have n3_ := Aside0.mk (Kd.R_elder' (zr HO_10 rfl) (Kd.R_base ho0) hb); have n4_ := Aside0.mk (Kd.R_elder' (zr HO696 rfl) (Kd.R_base ho0) hb); have n5_ := Aside0.mk (Kd.R_lower (Kd.R_new' (Kd.R_new' (Kd.R_new' (Kd.R_new' (Kd.R_new' ho0 (Kd.R_lt (zr HO_7 rfl))) (Kd.R_lt (zr HO_8 rfl))) (Kd.R_lt (zr HO_9 rfl))) (Kd.R_lt (zr HO_10 rfl))) (Kd.R_lt (zr HO696 rfl))) (below_size (zb HB rfl))); have n6_ := Aside0.mk (below_step (zb HB rfl) hb); clear HO_7; clear HO_8; clear HO_9; clear HO_10; clear HO696; clear HB; have HO_7 := n0_; have HO_8 := n1_; have HO_9 := n2_; have HO_10 := n3_; have HO696 := n4_; have HO701 := n5_; have HB := n6_; clear n0_ n1_ n2_ n3_ n4_ n5_ n6_; obtain ⟨Ao37, co37, eo37⟩ := Kd.R_slice HO_9.out; subst eo37; have p702 : 0 ≤ ((ji18) : Int) := of_decide_eq_true (by first | (with_reducible assumption) | assumption); have q702 : (ji18) < (x9_1.length : Int) := of_decide_eq_true (by first | (with_reducible assumption) | assumption); obtain ⟨ad702, e702, hx702_0⟩ := Kd.at_int (Kd.R_reads' HO_9.out).2.2 (ji18) p702 q702; cases e702; replace p702 := eq_true p702; replace q702 := eq_true q702; have p31 : 0 ≤ ((ji18) : Int) := of_decide_eq_true (by first | (with_reducible assumption) | assumption); have q31 : ((ji18) : Int) < ((x9_1.length : Int) : Int) := of_decide_eq_true (by first | (with_reducible assumption) | assumption); obtain ⟨go31, co31, eo31, gb31, gl31, cl31, HG31⟩ := Kd.R_form HO_9.out (by omega); (first | cases eo31 | (injection eo31 with ea_ en_ ec_; (first | subst ea_ | (injection ea_ with ea_; subst ea_)); subst ec_; clear en_)); have GB31 := Aside0.mk gb31; have GG31 := Aside0.mk HG31; clear gb31 gl31 HG31; (first | simp only [add_plain] at hx702_0 | skip); obtain ⟨hx31_0, hf31_0⟩ := Kd.R_celln 0 HO_9.out ((ji18) : Int) p31 q31; replace p31 := eq_true p31; replace q31 := eq_true q31; have n_ := Aside0.mk (Kd.R_mono (ok' := (fun k_ => some k_ ≠ (.slice (some ad693) t678.length co14 : Value).ownBlock ∧ some k_ ≠ (.slice Ao13 t681.length co13 : Value).ownBlock ∧ some k_ ≠ (.slice Ao32 x10_1.length co32 : Value).ownBlock ∧ some k_ ≠ (.slice Ao34 t694.length co34 : Value).ownBlock ∧ some k_ ≠ (v700 : Value).ownBlock)) HO_9.out (fun k_ hk => ⟨hk.1.1.1, ⟨hk.1.1.2.1, ⟨hk.1.1.2.2, ⟨hk.1.2, hk.2⟩⟩⟩⟩)); clear HO_9; have HO_9 := n_; clear n_; obtain ⟨hy38_, hz38_⟩ := Kd.R_celln 0 HO_9.out ((ji18) : Int) (of_decide_eq_true (by first | (with_reducible assumption) | assumption)) (of_decide_eq_true (by first | (with_reducible assumption) | assumption)); have HP38 := Kd.R_putg HO_9.out ((ji18) : Int) (Go.bits .or .u32 (rd x9_1 (ji18)) (ji30))) | ((with_reducible refine gate_store (t := 43) (p := 65) rfl ?_); refine store_event (t := 43) (p := 65) (v := ?vo_w39) (w1 := (w36.setCell ⟨go31, ((ji18) : Int).toNat, none⟩ (.int .u32 (Go.bits .or .u32 (rd x9_1 (ji18)) (ji30))))) ?hg ?ho ?hn ?hr ?_; (case ho => rfl); (case hg => rfl); (case hn => rfl); (case hr => first | (go_simp; done) | (go_simp; rfl)); intro w39 hw; have hg : w36.grownBy w39 (some go31) := (by rw [hw]; exact HP38.2); have hp_ : Kd.R (Kd.int .u32) 43 w39 w.heap.size (fun k_ => some k_ ≠ (.slice (some ad693) t678.length co14 : Value).ownBlock ∧ some k_ ≠ (.slice Ao13 t681.length co13 : Value).ownBlock ∧ some k_ ≠ (.slice Ao32 x10_1.length co32 : Value).ownBlock ∧ some k_ ≠ (.slice Ao34 t694.length co34 : Value).ownBlock ∧ some k_ ≠ (v700 : Value).ownBlock) (.slice (some ⟨go31, 0, none⟩) x9_1.length co37) y703 := (by rw [hw, Ny703.out]; exact HP38.1); clear HP38; have n0_ := Aside0.mk (Kd.R_after (v := (.slice (some ⟨go31, 0, none⟩) x9_1.length co37)) (v1 := (.slice (some ⟨go31, 0, none⟩) x9_1.length co37)) (ok := (fun k_ => some k_ ≠ (.slice Ao13 t681.length co13 : Value).ownBlock ∧ some k_ ≠ (.slice Ao32 x10_1.length co32 : Value).ownBlock ∧ some k_ ≠ (.slice Ao34 t694.length co34 : Value).ownBlock ∧ some k_ ≠ (v700 : Value).ownBlock)) (by (with_reducible repeat (first | apply Kd.R_alloc | apply Kd.R_drewN | apply Kd.R_drew)); exact Kd.R_mono HO_7.out (fun _ hk => ⟨⟨hk.1.1.1, ⟨hk.1.1.2.2, ⟨hk.1.2, hk.2⟩⟩⟩, hk.1.1.2.1⟩)) hg (.inl rfl)); have n1_ := Aside0.mk (Kd.R_after (v := (.slice (some ⟨go31, 0, none⟩) x9_1.length co37)) (v1 := (.slice (some ⟨go31, 0, none⟩) x9_1.length co37)) (ok := (fun k_ => some k_ ≠ (.slice (some ad693) t678.length co14 : Value).ownBlock ∧ some k_ ≠ (.slice Ao32 x10_1.length co32 : Value).ownBlock ∧ some k_ ≠ (.slice Ao34 t694.length co34 : Value).ownBlock ∧ some k_ ≠ (v700 : Value).ownBlock)) (by (with_reducible repeat (first | apply Kd.R_alloc | apply Kd.R_drewN | apply Kd.R_drew)); exact Kd.R_mono HO_8.out (fun _ hk => ⟨⟨hk.1.1.1, ⟨hk.1.1.2.2, ⟨hk.1.2, hk.2⟩⟩⟩, hk.1.1.2.1⟩)) hg (.inl rfl)); have n2_ := Aside0.mk (hp_); have n3_ := Aside0.mk (Kd.R_after (v := (.slice (some ⟨go31, 0, none⟩) x9_1.length co37)) (v1 := (.slice (some ⟨go31, 0, none⟩) x9_1.length co37)) (ok := (fun k_ => some k_ ≠ (.slice (some ad693) t678.length co14 : Value).ownBlock ∧ some k_ ≠ (.slice Ao13 t681.length co13 : Value).ownBlock ∧ some k_ ≠ (.slice Ao34 t694.length co34 : Value).ownBlock ∧ some k_ ≠ (v700 : Value).ownBlock)) (by (with_reducible repeat (first | apply Kd.R_alloc | apply Kd.R_drewN | apply Kd.R_drew)); exact Kd.R_mono HO_10.out (fun _ hk => ⟨⟨hk.1.1.1, ⟨hk.1.1.2.1, ⟨hk.1.2, hk.2⟩⟩⟩, hk.1.1.2.2⟩)) hg (.inl rfl)); have n4_ := Aside0.mk (Kd.R_after (v := (.slice (some ⟨go31, 0, none⟩) x9_1.length co37)) (v1 := (.slice (some ⟨go31, 0, none⟩) x9_1.length co37)) (ok := (fun k_ => some k_ ≠ (.slice (some ad693) t678.length co14 : Value).ownBlock ∧ some k_ ≠ (.slice Ao13 t681.length co13 : Value).ownBlock ∧ some k_ ≠ (.slice Ao32 x10_1.length co32 : Value).ownBlock ∧ some k_ ≠ (v700 : Value).ownBlock)) (by (with_reducible repeat (first | apply Kd.R_alloc | apply Kd.R_drewN | apply Kd.R_drew)); exact Kd.R_mono HO696.out (fun _ hk => ⟨⟨hk.1.1.1.1.2, ⟨hk.1.1.1.2, ⟨hk.1.2, hk.2⟩⟩⟩, hk.1.1.2⟩)) hg (.inl rfl)); have n5_ := Aside0.mk (Kd.R_after (v := (.slice (some ⟨go31, 0, none⟩) x9_1.length co37)) (v1 := (.slice (some ⟨go31, 0, none⟩) x9_1.length co37)) (ok := (fun k_ => some k_ ≠ (.slice (some ad693) t678.length co14 : Value).ownBlock ∧ some k_ ≠ (.slice Ao13 t681.length co13 : Value).ownBlock ∧ some k_ ≠ (.slice Ao32 x10_1.length co32 : Value).ownBlock ∧ some k_ ≠ (.slice Ao34 t694.length co34 : Value).ownBlock)) (by (with_reducible repeat (first | apply Kd.R_alloc | apply Kd.R_drewN | apply Kd.R_drew)); exact Kd.R_mono HO701.out (fun _ hk => ⟨⟨hk.1.1.1.1.2, ⟨hk.1.1.1.2, ⟨hk.1.2, hk.2⟩⟩⟩, hk.1.1.2⟩)) hg (.inl rfl)); have n6_ := Aside0.mk ((by rw [hw]; exact below_set (HB.out) GB31.out : Below w.heap.size w w39)); clear HO_7; clear HO_8; clear HO_9; clear HO_10; clear HO696; clear HO701; clear HB; have HO_7 := n0_; have HO_8 := n1_; have HO_9 := n2_; have HO_10 := n3_; have HO696 := n4_; have HO701 := n5_; have HB := n6_; clear n0_ n1_ n2_ n3_ n4_ n5_ n6_; clear hg hw hp_))
            go_roundg k1
            case measure => have := HK1.out; omega
            case rel => exact ⟨(y703), (t698), (wrap64 (x11_1 - 1)), (by first | rfl | (simp [*]; done)), H', ⟨by have := HK1.out; omega⟩, ⟨by (with_reducible repeat (first | apply Kd.R_alloc | apply Kd.R_drewN | apply Kd.R_drew)); exact Kd.R_mono HO_7.out (fun _ hk => ⟨hk.1.1, ⟨hk.2, hk.1.2.2.2⟩⟩)⟩, ⟨by (with_reducible repeat (first | apply Kd.R_alloc | apply Kd.R_drewN | apply Kd.R_drew)); exact Kd.R_mono HO_8.out (fun _ hk => ⟨hk.1.1, ⟨hk.2, hk.1.2.2.2⟩⟩)⟩, ⟨by (with_reducible repeat (first | apply Kd.R_alloc | apply Kd.R_drewN | apply Kd.R_drew)); exact Kd.R_mono HO_9.out (fun _ hk => ⟨hk.1, ⟨hk.2.1, hk.2.2.2.2⟩⟩)⟩, ⟨by (with_reducible repeat (first | apply Kd.R_alloc | apply Kd.R_drewN | apply Kd.R_drew)); exact Kd.R_mono HO701.out (fun _ hk => ⟨hk.1.1, ⟨hk.1.2.1, hk.2⟩⟩)⟩, ⟨by repeat (first | (with_reducible first | exact HB.out | apply below_alloc | apply pw_below_drewN | apply below_drew1) | exact HB.out)⟩⟩
           ·
            rw [if_neg c28] at H
            exact absurd H (by simp)
          ·
           rw [if_neg c26] at H
           have c26b0 : decide (0 ≤ t697) = false := decide_eq_false c26
           clear c26
           have H' := Aside0.mk H
           clear H
           have p693 : 0 ≤ ((ji18) : Int) := of_decide_eq_true (by first | (with_reducible assumption) | assumption)
           have q693 : (ji18) < (t678.length : Int) := of_decide_eq_true (by first | (with_reducible assumption) | assumption)
           obtain ⟨ad693, e693, hx693_0⟩ := Kd.at_int (Kd.R_reads' HO_7.out).2.2 (ji18) p693 q693
           cases e693
           replace p693 := eq_true p693
           replace q693 := eq_true q693
           obtain ⟨Ao40, co40, eo40⟩ := Kd.R_slice HO_10.out
           subst eo40
           go_wp2_with (first | ((with_reducible refine gate_callee (f := 51) rfl ?_); refine goesL_ (some 41) rfl rfl Try.func51 (by kernel_rfl) rfl #[.slice Ao40 x10_1.length co40, .int .u32 (Go.bits .and .u32 (ji23) 1)] rfl (by (try simp only [List.map_toArray, List.map_cons, List.map_nil]); first | done | (simp only [hji23]; rfl) | rfl | (simp only [List.length_drop, List.length_take]; rfl) | (go_simp; done) | (go_simp; rfl) | (go_simp; (try simp only [IntKind.wrap_u8, IntKind.wrap_u32, IntKind.wrap_u64]); omega)) ?_; (with_reducible refine (credenceref1_double.calls k1 _ _ x10_1 (Go.bits .and .u32 (ji23) 1) t694 _ ?side1 ?side2 A24.out).mono ?_); (case side1 => repeat first | exact (Kd.R_reads' HO_10.out).2.2 | refine Kd.C_drewN ?_ _ | refine Kd.C_alloc ?_ _ | refine Kd.C_drew ?_); (case side2 => exact (Kd.R_reads' HO_10.out).2.1); rintro e w41 ⟨v695, rfl, ho0, hb⟩; refine ⟨_, rfl, ?_⟩; have n0_ := Aside0.mk (Kd.R_elder' (zr HO_7 rfl) (Kd.R_base ho0) hb); have n1_ := Aside0.mk (Kd.R_elder' (zr HO_8 rfl) (Kd.R_base ho0) hb); have n2_ := Aside0.mk (Kd.R_elder' (zr HO_9 rfl) (Kd.R_base ho0) hb); have n3_ := Aside0.mk (Kd.R_elder' (zr HO_10 rfl) (Kd.R_base ho0) hb); have n4_ := Aside0.mk (Kd.R_lower (Kd.R_new' (Kd.R_new' (Kd.R_new' (Kd.R_new' ho0 (Kd.R_lt (zr HO_7 rfl))) (Kd.R_lt (zr HO_8 rfl))) (Kd.R_lt (zr HO_9 rfl))) (Kd.R_lt (zr HO_10 rfl))) (below_size (zb HB rfl))); have n5_ := Aside0.mk (below_step (zb HB rfl) hb); clear HO_7; clear HO_8; clear HO_9; clear HO_10; clear HB; have HO_7 := n0_; have HO_8 := n1_; have HO_9 := n2_; have HO_10 := n3_; have HO696 := n4_; have HB := n5_; clear n0_ n1_ n2_ n3_ n4_ n5_; obtain ⟨Ao42, co42, eo42⟩ := Kd.R_slice HO696.out; subst eo42) | ((with_reducible refine gate_callee (f := 37) rfl ?_); refine goesL_ (some 44) rfl rfl Try.func37 (by kernel_rfl) rfl #[.slice Ao42 t694.length co42, .slice Ao13 t681.length co13] rfl (by first | rfl | (go_simp; first | done | rfl | ((try simp only [IntKind.wrap_u8, IntKind.wrap_u32, IntKind.wrap_u64]); omega))) ?_; (with_reducible refine (credenceref1_NatCmp.calls k1 _ _ t694 _ _ t681 t697 _ ?side1 ?side2 ?side3 ?side4 A25.out).mono ?_); (case side1 => repeat first | exact (Kd.R_reads' HO696.out).2.2 | refine Kd.C_drewN ?_ _ | refine Kd.C_alloc ?_ _ | refine Kd.C_drew ?_); (case side2 => exact (Kd.R_reads' HO696.out).2.1); (case side3 => repeat first | exact (Kd.R_reads' HO_8.out).2.2 | refine Kd.C_drewN ?_ _ | refine Kd.C_alloc ?_ _ | refine Kd.C_drew ?_); (case side4 => exact (Kd.R_reads' HO_8.out).2.1); rintro e w43 ⟨rfl, hb⟩; refine ⟨_, rfl, ?_⟩; have n0_ := Aside0.mk (Kd.R_below (zr HO_7 rfl) hb); have n1_ := Aside0.mk (Kd.R_below (zr HO_8 rfl) hb); have n2_ := Aside0.mk (Kd.R_below (zr HO_9 rfl) hb); have n3_ := Aside0.mk (Kd.R_below (zr HO_10 rfl) hb); have n4_ := Aside0.mk (Kd.R_below (zr HO696 rfl) hb); have n5_ := Aside0.mk (below_step (zb HB rfl) hb); clear HO_7; clear HO_8; clear HO_9; clear HO_10; clear HO696; clear HB; have HO_7 := n0_; have HO_8 := n1_; have HO_9 := n2_; have HO_10 := n3_; have HO696 := n4_; have HB := n5_; clear n0_ n1_ n2_ n3_ n4_ n5_))
           go_roundg k1
           case measure => have := HK1.out; omega
           case rel => exact ⟨(x9_1), (t694), (wrap64 (x11_1 - 1)), (by first | rfl | (simp [*]; done)), H', ⟨by have := HK1.out; omega⟩, ⟨by (with_reducible repeat (first | apply Kd.R_alloc | apply Kd.R_drewN | apply Kd.R_drew)); exact Kd.R_mono HO_7.out (fun _ hk => ⟨hk.1.1, ⟨hk.1.2.1, hk.2⟩⟩)⟩, ⟨by (with_reducible repeat (first | apply Kd.R_alloc | apply Kd.R_drewN | apply Kd.R_drew)); exact Kd.R_mono HO_8.out (fun _ hk => ⟨hk.1.1, ⟨hk.1.2.1, hk.2⟩⟩)⟩, ⟨by (with_reducible repeat (first | apply Kd.R_alloc | apply Kd.R_drewN | apply Kd.R_drew)); exact Kd.R_mono HO_9.out (fun _ hk => ⟨hk.1.1, ⟨hk.1.2.1, hk.2⟩⟩)⟩, ⟨by (with_reducible repeat (first | apply Kd.R_alloc | apply Kd.R_drewN | apply Kd.R_drew)); exact Kd.R_mono HO696.out (fun _ hk => ⟨hk.1.1.1.2, ⟨hk.1.1.2, hk.1.2⟩⟩)⟩, ⟨by repeat (first | (with_reducible first | exact HB.out | apply below_alloc | apply pw_below_drewN | apply below_drew1) | exact HB.out)⟩⟩
         ·
          rw [if_neg c22] at H
          exact absurd H (by simp)
        ·
         rw [if_neg c20] at H
         exact absurd H (by simp)
       ·
        rw [if_neg c19] at H
        exact absurd H (by simp)
      ·
       rw [if_neg c17] at H
       have c17b0 : decide (0 ≤ x11_1) = false := decide_eq_false c17
       clear c17
       replace H := Option.bind_eq_some_iff.mp H
       obtain ⟨t687, A440, H⟩ := H
       replace H : ((credenceref1_NatNorm.f k1 x10_1).bind fun t690 => (some (t687, t690, true))) = some (r1, r2, r3) := H
       have A44 := Aside0.mk A440
       clear A440
       replace H := Option.bind_eq_some_iff.mp H
       obtain ⟨t690, A450, H⟩ := H
       replace H : (some (t687, t690, true)) = some (r1, r2, r3) := H
       have A45 := Aside0.mk A450
       clear A450
       simp only [Option.some.injEq, Prod.mk.injEq] at H
       obtain ⟨rfl, rfl, rfl⟩ := H
       obtain ⟨Ao46, co46, eo46⟩ := Kd.R_slice HO_9.out
       subst eo46
       go_wp2_with (first | ((with_reducible refine gate_callee (f := 35) rfl ?_); refine goesL_ (some 67) rfl rfl Try.func35 (by kernel_rfl) rfl #[.slice Ao46 x9_1.length co46] rfl (by first | rfl | (go_simp; first | done | rfl | ((try simp only [IntKind.wrap_u8, IntKind.wrap_u32, IntKind.wrap_u64]); omega))) ?_; (with_reducible refine (credenceref1_NatNorm.calls k1 _ _ x9_1 t687 _ ?side1 ?side2 A44.out).mono ?_); (case side1 => repeat first | exact (Kd.R_reads' HO_9.out).2.2 | refine Kd.C_drewN ?_ _ | refine Kd.C_alloc ?_ _ | refine Kd.C_drew ?_); (case side2 => exact (Kd.R_reads' HO_9.out).2.1); rintro e w47 ⟨v688, rfl, ho0, hb⟩; refine ⟨_, rfl, ?_⟩; have n0_ := Aside0.mk (Kd.R_elder' (zr HO_7 rfl) (Kd.R_base ho0) hb); have n1_ := Aside0.mk (Kd.R_elder' (zr HO_8 rfl) (Kd.R_base ho0) hb); have n2_ := Aside0.mk (Kd.R_elder' (zr HO_9 rfl) (Kd.R_base ho0) hb); have n3_ := Aside0.mk (Kd.R_elder' (zr HO_10 rfl) (Kd.R_base ho0) hb); have n4_ := Aside0.mk (Kd.R_lower (Kd.R_new' (Kd.R_new' (Kd.R_new' (Kd.R_new' ho0 (Kd.R_lt (zr HO_7 rfl))) (Kd.R_lt (zr HO_8 rfl))) (Kd.R_lt (zr HO_9 rfl))) (Kd.R_lt (zr HO_10 rfl))) (below_size (zb HB rfl))); have n5_ := Aside0.mk (below_step (zb HB rfl) hb); clear HO_7; clear HO_8; clear HO_9; clear HO_10; clear HB; have HO_7 := n0_; have HO_8 := n1_; have HO_9 := n2_; have HO_10 := n3_; have HO689 := n4_; have HB := n5_; clear n0_ n1_ n2_ n3_ n4_ n5_; obtain ⟨Ao48, co48, eo48⟩ := Kd.R_slice HO_10.out; subst eo48) | ((with_reducible refine gate_callee (f := 35) rfl ?_); refine goesL_ (some 69) rfl rfl Try.func35 (by kernel_rfl) rfl #[.slice Ao48 x10_1.length co48] rfl (by first | rfl | (go_simp; first | done | rfl | ((try simp only [IntKind.wrap_u8, IntKind.wrap_u32, IntKind.wrap_u64]); omega))) ?_; (with_reducible refine (credenceref1_NatNorm.calls k1 _ _ x10_1 t690 _ ?side1 ?side2 A45.out).mono ?_); (case side1 => repeat first | exact (Kd.R_reads' HO_10.out).2.2 | refine Kd.C_drewN ?_ _ | refine Kd.C_alloc ?_ _ | refine Kd.C_drew ?_); (case side2 => exact (Kd.R_reads' HO_10.out).2.1); rintro e w49 ⟨v691, rfl, ho0, hb⟩; refine ⟨_, rfl, ?_⟩; have n0_ := Aside0.mk (Kd.R_elder' (zr HO_7 rfl) (Kd.R_base ho0) hb); have n1_ := Aside0.mk (Kd.R_elder' (zr HO_8 rfl) (Kd.R_base ho0) hb); have n2_ := Aside0.mk (Kd.R_elder' (zr HO_9 rfl) (Kd.R_base ho0) hb); have n3_ := Aside0.mk (Kd.R_elder' (zr HO_10 rfl) (Kd.R_base ho0) hb); have n4_ := Aside0.mk (Kd.R_elder' (zr HO689 rfl) (Kd.R_base ho0) hb); have n5_ := Aside0.mk (Kd.R_lower (Kd.R_new' (Kd.R_new' (Kd.R_new' (Kd.R_new' (Kd.R_new' ho0 (Kd.R_lt (zr HO_7 rfl))) (Kd.R_lt (zr HO_8 rfl))) (Kd.R_lt (zr HO_9 rfl))) (Kd.R_lt (zr HO_10 rfl))) (Kd.R_lt (zr HO689 rfl))) (below_size (zb HB rfl))); have n6_ := Aside0.mk (below_step (zb HB rfl) hb); clear HO_7; clear HO_8; clear HO_9; clear HO_10; clear HO689; clear HB; have HO_7 := n0_; have HO_8 := n1_; have HO_9 := n2_; have HO_10 := n3_; have HO689 := n4_; have HO692 := n5_; have HB := n6_; clear n0_ n1_ n2_ n3_ n4_ n5_ n6_))
       go_ret3
       exact ⟨_, _, by first | rfl | (simp [*, errW_none, errW_some] <;> rfl), by (with_reducible repeat (first | apply Kd.R_alloc | apply Kd.R_drewN | apply Kd.R_drew)); exact Kd.R_mono HO689.out (fun _ hk => hk.2), by (with_reducible repeat (first | apply Kd.R_alloc | apply Kd.R_drewN | apply Kd.R_drew)); exact Kd.R_mono HO692.out (fun _ hk => hk.2), by repeat (first | (with_reducible first | exact HB.out | apply below_alloc | apply pw_below_drewN | apply below_drew1) | exact HB.out)⟩
   ·
    rw [if_neg c10] at H
    exact absurd H (by simp)
  ·
   rw [if_neg c9] at H
   exact absurd H (by simp)

end Go.Proofs.Ytjiaplnpgjicgaa.Q

