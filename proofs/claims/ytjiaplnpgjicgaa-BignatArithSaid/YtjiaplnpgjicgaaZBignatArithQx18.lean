/- Lemmas for the proof of one law of this seat (Qx18). -/
import Derived.Test.YtjiaplnpgjicgaaZBignatArithQx0
import Derived.Test.YtjiaplnpgjicgaaZBignatArithQx3
import Derived.Test.YtjiaplnpgjicgaaZBignatArithSq
namespace Go.Proofs.Ytjiaplnpgjicgaa.Q
open Go.RowKit Go.Proofs.YtjiaplnpgjicgaaW.PrintWords Go.Proofs.YtjiaplnpgjicgaaW.PrintLast Go.Proofs.YtjiaplnpgjicgaaW.PrintMore
attribute [local go_sem] max2_int min2_int max_two min_two max_three min_three max_four min_four   -- for this text's walks alone
set_option linter.unusedVariables false
set_option linter.unusedSimpArgs false

def credenceref1_half.l0 : Nat → List Int → List Int → Int → Option (List Int)
 | 0, _, _, _ => none
 | k + 1, x0, x3, x4 => if x4 < (x0.length : Int) then (if 0 ≤ x4 then (if (wrap64 (x4 + 1)) < (x0.length : Int) then (if 0 ≤ (wrap64 (x4 + 1)) then (if x3.length < 35184372088832 then (credenceref1_half.l0 k x0 (x3 ++ [Go.bits .or .u32 ((rd x0 x4) / 2) (((rd x0 (wrap64 (x4 + 1))) * 2147483648) % 4294967296)]) (wrap64 (x4 + 1))) else (none)) else (none)) else (if x3.length < 35184372088832 then (credenceref1_half.l0 k x0 (x3 ++ [(rd x0 x4) / 2]) (wrap64 (x4 + 1))) else (none))) else (none)) else ((credenceref1_NatNorm.f k x3).bind fun t856 => (some t856))
def credenceref1_half.f (k : Nat) (l0 : List Int) : Option (List Int) := credenceref1_half.l0 k l0 ([] : List Int) 0
theorem credenceref1_half.mono_l : ∀ k, (∀ y0 y1 y2, LeO (credenceref1_half.l0 k y0 y1 y2) (credenceref1_half.l0 (k + 1) y0 y1 y2))
 | 0 => fun _ _ _ r h => by simp [credenceref1_half.l0] at h
 | k + 1 => by
  have ih0 := credenceref1_half.mono_l k
  ·
   intro y0 y1 y2
   unfold credenceref1_half.l0
   repeat' first
   | (with_reducible exact ih0 _ _ _)
   | (with_reducible exact credenceref1_NatNorm.mono _ _)
   | (with_reducible exact LeO.refl _)
   | (with_reducible exact LeO.none _)
   | (with_reducible refine LeO.ite ?_ ?_)
   | (with_reducible refine LeO.bind ?_ (fun _ => ?_))
   | exact ih0 _ _ _
   | exact credenceref1_NatNorm.mono _ _
   | exact LeO.none _
   | refine LeO.ite ?_ ?_
   | refine LeO.bind ?_ (fun _ => ?_)
theorem credenceref1_half.mono : ∀ a0 k, LeO (credenceref1_half.f k a0) (credenceref1_half.f (k + 1) a0) := by
 intro a0 k
 have ih0 := credenceref1_half.mono_l k
 unfold credenceref1_half.f
 repeat' first
   | (with_reducible exact ih0 _ _ _)
   | (with_reducible exact credenceref1_NatNorm.mono _ _)
   | (with_reducible exact LeO.refl _)
   | (with_reducible exact LeO.none _)
   | (with_reducible refine LeO.ite ?_ ?_)
   | (with_reducible refine LeO.bind ?_ (fun _ => ?_))
   | exact ih0 _ _ _
   | exact credenceref1_NatNorm.mono _ _
   | exact LeO.none _
   | refine LeO.ite ?_ ?_
   | refine LeO.bind ?_ (fun _ => ?_)
set_option maxHeartbeats 8000000 in
set_option maxRecDepth 100000 in
theorem credenceref1_half.calls (k : Nat) (A0 : Option Addr) (c0 : Nat) (l0 : List Int) (r : List Int) (w : World) (hr0 : Kd.C (Kd.int .u32) w A0 l0.length l0) (hc0 : l0.length ≤ c0) (h : credenceref1_half.f k l0 = some r) :
  Calls Try.prog 53 #[.slice A0 l0.length c0] w fun e w' => ∃ v0_ : Value, e = .returned (v0_) ∧ Kd.R (Kd.int .u32) 43 w' w.heap.size (fun _ => True) v0_ r ∧ Below w.heap.size w w' := by
 have HR0 := Aside0.mk hr0
 have HC0 := Aside0.mk hc0
 clear hr0 hc0
 have HB := Aside0.mk (Below.refl w.heap.size w)
 have H : (credenceref1_half.l0 k l0 ([] : List Int) 0) = some r := h
 clear h
 have H' := Aside0.mk H
 clear H
 go_enter Try.func53, Try.ntmps53
 go_wp2
 go_loopg [3, 4] k (fun kq v3 v4 w' => ∃ (x3_1 : List Int) (x4_1 : Int), v4 = .int .i64 x4_1 ∧ Aside0 (credenceref1_half.l0 kq l0 x3_1 x4_1 = some r) ∧ Aside0 (kq ≤ k) ∧ Aside0 (Kd.R (Kd.int .u32) 43 w' w.heap.size (fun _ => True) v3 x3_1) ∧ Aside0 (Below w.heap.size w w'))
 case atStart => exact ⟨(([] : List Int)), (0), (by first | rfl | (simp [*]; done)), H', ⟨Nat.le_refl _⟩, ⟨by first | exact Kd.R_nil _ _ _ _ _ | exact Kd.V_nil _ _ _ _ _⟩, ⟨by repeat (first | (with_reducible first | exact HB.out | apply below_alloc | apply pw_below_drewN | apply below_drew1) | exact HB.out)⟩⟩
 case round =>
  clear H'
  obtain ⟨x3_1, x4_1, rfl, HA, HK1, HO_3, HB⟩ := hrel
  cases gk with
  | zero => exact absurd HA.out (by simp [credenceref1_half.l0])
  | succ k1 =>
   have H := HA.out
   clear HA
   simp only [credenceref1_half.l0] at H
   by_cases c2 : x4_1 < (l0.length : Int)
   ·
    rw [if_pos c2] at H
    have c2b0 : decide (x4_1 < (l0.length : Int)) = true := decide_eq_true c2
    clear c2
    by_cases c3 : 0 ≤ x4_1
    ·
     rw [if_pos c3] at H
     have c3b0 : decide (0 ≤ x4_1) = true := decide_eq_true c3
     clear c3
     by_cases c4 : (wrap64 (x4_1 + 1)) < (l0.length : Int)
     ·
      rw [if_pos c4] at H
      have c4b0 : decide ((wrap64 (x4_1 + 1)) < (l0.length : Int)) = true := decide_eq_true c4
      clear c4
      obtain ⟨ji5, hji5⟩ : ∃ j_ : Int, (wrap64 (x4_1 + 1)) = j_ := ⟨_, rfl⟩
      replace H : (if 0 ≤ (ji5) then (if x3_1.length < 35184372088832 then (credenceref1_half.l0 k1 l0 (x3_1 ++ [Go.bits .or .u32 ((rd l0 x4_1) / 2) (((rd l0 (ji5)) * 2147483648) % 4294967296)]) ji5) else (none)) else (none)) = some r := by first | (rw [hji5] at H; exact H) | (simp only [hji5] at H ⊢; exact H)
      (try rw [hji5] at c4b0)
      have hji5w : (IntKind.i64.wrap (x4_1 + 1)) = ji5 := (i64_w _).trans hji5
      by_cases c6 : 0 ≤ (ji5)
      ·
       rw [if_pos c6] at H
       have c6b0 : decide (0 ≤ (ji5)) = true := decide_eq_true c6
       clear c6
       by_cases c7 : x3_1.length < 35184372088832
       ·
        rw [if_pos c7] at H
        have LMc7 := Aside0.mk c7
        clear c7
        obtain ⟨y850, hy850⟩ : ∃ y_ : List Int, y_ = (x3_1 ++ [Go.bits .or .u32 ((rd l0 x4_1) / 2) (((rd l0 (ji5)) * 2147483648) % 4294967296)]) := ⟨_, rfl⟩
        replace H : (credenceref1_half.l0 k1 l0 y850 ji5) = some r := by first | (rw [hy850]; with_reducible exact H) | (have H2_ := (Option.bind_some _ _).symm.trans H; rw [hy850]; with_reducible exact H2_) | (have H2_ := (Option.bind_some _ _).symm.trans H; with_reducible exact H2_) | with_reducible exact H | (rw [hy850]; exact H) | exact H
        have Ny850 := Aside0.mk hy850
        clear hy850
        have H' := Aside0.mk H
        clear H
        have p848 : 0 ≤ (x4_1 : Int) := of_decide_eq_true (by first | (with_reducible assumption) | assumption)
        have q848 : x4_1 < (l0.length : Int) := of_decide_eq_true (by first | (with_reducible assumption) | assumption)
        obtain ⟨ad848, e848, hx848_0⟩ := Kd.at_int HR0.out x4_1 p848 q848
        cases e848
        replace hx848_0 := (HB.out.cell (World.block_lt_of_cell? w _ hx848_0)).trans hx848_0
        replace p848 := eq_true p848
        replace q848 := eq_true q848
        have p849 : 0 ≤ ((ji5) : Int) := of_decide_eq_true (by first | (with_reducible assumption) | assumption)
        have q849 : (ji5) < (l0.length : Int) := of_decide_eq_true (by first | (with_reducible assumption) | assumption)
        obtain ⟨ad849, e849, hx849_0⟩ := Kd.at_int HR0.out (ji5) p849 q849
        obtain rfl : ad848 = ad849 := (by injection e849)
        replace hx849_0 := (HB.out.cell (World.block_lt_of_cell? w _ hx849_0)).trans hx849_0
        replace p849 := eq_true p849
        replace q849 := eq_true q849
        go_wp2_with (first | ((with_reducible refine gate_builtin (b := .append) (xs := #[.tmp 30, .tmp 32]) rfl ?_); at_builtin; refine Kd.R_append (Kd.int .u32) (w0 := w) w.heap.size rfl (.tmp 30) (.tmp 32) 23 43 (.int .u32 0) 4 rfl Try.underlying23 info43 rfl (by decide) (by omega) u3 x3_1 (Go.bits .or .u32 ((rd l0 x4_1) / 2) (((rd l0 (ji5)) * 2147483648) % 4294967296)) [.int .u32 (Go.bits .or .u32 ((rd l0 x4_1) / 2) (((rd l0 (ji5)) * 2147483648) % 4294967296))] (fun _ => True) (fun _ => False) rfl rfl ?aP (fun _ hk => hk.elim) ?aF ?aO ?aB ?aS ?aL ?_; (case aP => exact rfl); (case aB => exact (by repeat (first | (with_reducible first | exact HB.out | apply below_alloc | apply pw_below_drewN | apply below_drew1) | exact HB.out))); (case aF => exact (fun _ _ => trivial)); (case aO => exact (by (with_reducible repeat (first | apply Kd.R_alloc | apply Kd.R_drewN | apply Kd.R_drew)); exact HO_3.out)); (case aS => exact (below_size (by repeat (first | (with_reducible first | exact HB.out | apply below_alloc | apply pw_below_drewN | apply below_drew1) | exact HB.out)))); (case aL => have := LMc7.out; omega); intro v851 w8 ho hb hg hat; rw [← Ny850.out] at ho; have n0_ := Aside0.mk (hb); have n1_ := Aside0.mk (ho); clear HB; clear HO_3; have HB := n0_; have HO852 := n1_; clear n0_ n1_; clear ho hb hg hat))
        go_roundg k1
        case measure => have := HK1.out; omega
        case rel => exact ⟨(y850), (ji5), (by first | rfl | (simp; done) | (simp only [← hji5] <;> (first | rfl | simp)) | (simp [*]; done)), H', ⟨by have := HK1.out; omega⟩, ⟨by (with_reducible repeat (first | apply Kd.R_alloc | apply Kd.R_drewN | apply Kd.R_drew)); exact HO852.out⟩, ⟨by repeat (first | (with_reducible first | exact HB.out | apply below_alloc | apply pw_below_drewN | apply below_drew1) | exact HB.out)⟩⟩
       ·
        rw [if_neg c7] at H
        exact absurd H (by simp)
      ·
       rw [if_neg c6] at H
       exact absurd H (by simp)
     ·
      rw [if_neg c4] at H
      have c4b0 : decide ((wrap64 (x4_1 + 1)) < (l0.length : Int)) = false := decide_eq_false c4
      clear c4
      by_cases c9 : x3_1.length < 35184372088832
      ·
       rw [if_pos c9] at H
       have LMc9 := Aside0.mk c9
       clear c9
       obtain ⟨y853, hy853⟩ : ∃ y_ : List Int, y_ = (x3_1 ++ [(rd l0 x4_1) / 2]) := ⟨_, rfl⟩
       replace H : (credenceref1_half.l0 k1 l0 y853 (wrap64 (x4_1 + 1))) = some r := by first | (rw [hy853]; with_reducible exact H) | (have H2_ := (Option.bind_some _ _).symm.trans H; rw [hy853]; with_reducible exact H2_) | (have H2_ := (Option.bind_some _ _).symm.trans H; with_reducible exact H2_) | with_reducible exact H | (rw [hy853]; exact H) | exact H
       have Ny853 := Aside0.mk hy853
       clear hy853
       have H' := Aside0.mk H
       clear H
       have p848 : 0 ≤ (x4_1 : Int) := of_decide_eq_true (by first | (with_reducible assumption) | assumption)
       have q848 : x4_1 < (l0.length : Int) := of_decide_eq_true (by first | (with_reducible assumption) | assumption)
       obtain ⟨ad848, e848, hx848_0⟩ := Kd.at_int HR0.out x4_1 p848 q848
       cases e848
       replace hx848_0 := (HB.out.cell (World.block_lt_of_cell? w _ hx848_0)).trans hx848_0
       replace p848 := eq_true p848
       replace q848 := eq_true q848
       go_wp2_with (first | ((with_reducible refine gate_builtin (b := .append) (xs := #[.tmp 30, .tmp 32]) rfl ?_); at_builtin; refine Kd.R_append (Kd.int .u32) (w0 := w) w.heap.size rfl (.tmp 30) (.tmp 32) 23 43 (.int .u32 0) 4 rfl Try.underlying23 info43 rfl (by decide) (by omega) u3 x3_1 ((rd l0 x4_1) / 2) [.int .u32 ((rd l0 x4_1) / 2)] (fun _ => True) (fun _ => False) rfl rfl ?aP (fun _ hk => hk.elim) ?aF ?aO ?aB ?aS ?aL ?_; (case aP => exact rfl); (case aB => exact (by repeat (first | (with_reducible first | exact HB.out | apply below_alloc | apply pw_below_drewN | apply below_drew1) | exact HB.out))); (case aF => exact (fun _ _ => trivial)); (case aO => exact (by (with_reducible repeat (first | apply Kd.R_alloc | apply Kd.R_drewN | apply Kd.R_drew)); exact HO_3.out)); (case aS => exact (below_size (by repeat (first | (with_reducible first | exact HB.out | apply below_alloc | apply pw_below_drewN | apply below_drew1) | exact HB.out)))); (case aL => have := LMc9.out; omega); intro v854 w10 ho hb hg hat; rw [← Ny853.out] at ho; have n0_ := Aside0.mk (hb); have n1_ := Aside0.mk (ho); clear HB; clear HO_3; have HB := n0_; have HO855 := n1_; clear n0_ n1_; clear ho hb hg hat))
       go_roundg k1
       case measure => have := HK1.out; omega
       case rel => exact ⟨(y853), (wrap64 (x4_1 + 1)), (by first | rfl | (simp [*]; done)), H', ⟨by have := HK1.out; omega⟩, ⟨by (with_reducible repeat (first | apply Kd.R_alloc | apply Kd.R_drewN | apply Kd.R_drew)); exact HO855.out⟩, ⟨by repeat (first | (with_reducible first | exact HB.out | apply below_alloc | apply pw_below_drewN | apply below_drew1) | exact HB.out)⟩⟩
      ·
       rw [if_neg c9] at H
       exact absurd H (by simp)
    ·
     rw [if_neg c3] at H
     exact absurd H (by simp)
   ·
    rw [if_neg c2] at H
    have c2b0 : decide (x4_1 < (l0.length : Int)) = false := decide_eq_false c2
    clear c2
    replace H := Option.bind_eq_some_iff.mp H
    obtain ⟨t856, A110, H⟩ := H
    replace H : (some t856) = some r := H
    have A11 := Aside0.mk A110
    clear A110
    obtain rfl := Option.some.inj H
    obtain ⟨Ao12, co12, eo12⟩ := Kd.R_slice HO_3.out
    subst eo12
    go_wp2_with (first | ((with_reducible refine gate_callee (f := 35) rfl ?_); refine goesL_ (some 35) rfl rfl Try.func35 (by kernel_rfl) rfl #[.slice Ao12 x3_1.length co12] rfl (by first | rfl | (go_simp; first | done | rfl | ((try simp only [IntKind.wrap_u8, IntKind.wrap_u32, IntKind.wrap_u64]); omega))) ?_; (with_reducible refine (credenceref1_NatNorm.calls k1 _ _ x3_1 t856 _ ?side1 ?side2 A11.out).mono ?_); (case side1 => repeat first | exact (Kd.R_reads' HO_3.out).2.2 | refine Kd.C_drewN ?_ _ | refine Kd.C_alloc ?_ _ | refine Kd.C_drew ?_); (case side2 => exact (Kd.R_reads' HO_3.out).2.1); rintro e w13 ⟨v857, rfl, ho0, hb⟩; refine ⟨_, rfl, ?_⟩; have n0_ := Aside0.mk (Kd.R_elder' (zr HO_3 rfl) (Kd.R_base ho0) hb); have n1_ := Aside0.mk (Kd.R_lower (Kd.R_new' ho0 (Kd.R_lt (zr HO_3 rfl))) (below_size (zb HB rfl))); have n2_ := Aside0.mk (below_step (zb HB rfl) hb); clear HO_3; clear HB; have HO_3 := n0_; have HO858 := n1_; have HB := n2_; clear n0_ n1_ n2_))
    go_ret
    exact ⟨_, by first | rfl | (simp [*, errW_none, errW_some] <;> rfl), by (with_reducible repeat (first | apply Kd.R_alloc | apply Kd.R_drewN | apply Kd.R_drew)); exact Kd.R_mono HO858.out (fun _ hk => trivial), by repeat (first | (with_reducible first | exact HB.out | apply below_alloc | apply pw_below_drewN | apply below_drew1) | exact HB.out)⟩

end Go.Proofs.Ytjiaplnpgjicgaa.Q

