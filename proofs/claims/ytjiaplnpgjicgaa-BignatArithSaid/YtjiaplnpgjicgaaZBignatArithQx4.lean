/- Lemmas for the proof of one law of this seat (Qx4). -/
import Derived.Test.YtjiaplnpgjicgaaZBignatArithQx0
import Derived.Test.YtjiaplnpgjicgaaZBignatArithQx3
import Derived.Test.YtjiaplnpgjicgaaZBignatArithSq
namespace Go.Proofs.Ytjiaplnpgjicgaa.Q
open Go.RowKit Go.Proofs.YtjiaplnpgjicgaaW.PrintWords Go.Proofs.YtjiaplnpgjicgaaW.PrintLast Go.Proofs.YtjiaplnpgjicgaaW.PrintMore
attribute [local go_sem] max2_int min2_int max_two min_two max_three min_three max_four min_four   -- for this text's walks alone
set_option linter.unusedVariables false
set_option linter.unusedSimpArgs false

def credenceref1_NatOf.f (k : Nat) (a0 : Int) : Option (List Int) := (credenceref1_NatNorm.f k (([(a0) % 4294967296, (a0 / 4294967296) % 4294967296] : List Int))).bind fun t180 => (some t180)
theorem credenceref1_NatOf.mono : ∀ a0 k, LeO (credenceref1_NatOf.f k a0) (credenceref1_NatOf.f (k + 1) a0) := by
 intro a0 k
 unfold credenceref1_NatOf.f
 repeat' first
   | (with_reducible exact credenceref1_NatNorm.mono _ _)
   | (with_reducible exact LeO.refl _)
   | (with_reducible exact LeO.none _)
   | (with_reducible refine LeO.ite ?_ ?_)
   | (with_reducible refine LeO.bind ?_ (fun _ => ?_))
   | exact credenceref1_NatNorm.mono _ _
   | exact LeO.none _
   | refine LeO.ite ?_ ?_
   | refine LeO.bind ?_ (fun _ => ?_)
set_option maxHeartbeats 8000000 in
set_option maxRecDepth 100000 in
theorem credenceref1_NatOf.calls (k : Nat) (a0 : Int) (r : List Int) (w : World) (h : credenceref1_NatOf.f k a0 = some r) :
  Calls Try.prog 34 #[.int .u64 a0] w fun e w' => ∃ v0_ : Value, e = .returned (v0_) ∧ Kd.R (Kd.int .u32) 43 w' w.heap.size (fun _ => True) v0_ r ∧ Below w.heap.size w w' := by
 have HB := Aside0.mk (Below.refl w.heap.size w)
 have H : ((credenceref1_NatNorm.f k (([(a0) % 4294967296, (a0 / 4294967296) % 4294967296] : List Int))).bind fun t180 => (some t180)) = some r := h
 clear h
 obtain ⟨y177, hy177⟩ : ∃ y_ : List Int, y_ = (([(a0) % 4294967296, (a0 / 4294967296) % 4294967296] : List Int)) := ⟨_, rfl⟩
 replace H : ((credenceref1_NatNorm.f k y177).bind fun t180 => (some t180)) = some r := by first | (rw [hy177]; with_reducible exact H) | (have H2_ := (Option.bind_some _ _).symm.trans H; rw [hy177]; with_reducible exact H2_) | (have H2_ := (Option.bind_some _ _).symm.trans H; with_reducible exact H2_) | with_reducible exact H | (rw [hy177]; exact H) | exact H
 have Ny177 := Aside0.mk hy177
 clear hy177
 replace H := Option.bind_eq_some_iff.mp H
 obtain ⟨t180, A20, H⟩ := H
 replace H : (some t180) = some r := H
 have A2 := Aside0.mk A20
 clear A20
 obtain rfl := Option.some.inj H
 go_enter Try.func34, Try.ntmps34
 go_wp2_with (first | ((with_reducible refine gate_dst (N := 8) rfl ?_); refine Kd.R_lit (Kd.int .u32) _ 43 ?hg (N := 8) ?hd (xs := ([(a0) % 4294967296, (a0 / 4294967296) % 4294967296] : List Int)) (inner := [.int .u32 ((a0) % 4294967296), .int .u32 ((a0 / 4294967296) % 4294967296)]) (ok := fun _ => True) (okp := fun _ => True) ?hr ?hp (fun _ hk => hk) trivial (Below.refl _ _) (Nat.le_refl _) (by simp) ?_; (case hd => rfl); (case hg => rfl); (case hr => first | (go_simp; done) | (go_simp; rfl)); (case hp => exact (Reps.one (show Kd.M (Kd.int .u32) _ _ _ ((a0) % 4294967296) [.int .u32 ((a0) % 4294967296)] from rfl) (Reps.one (show Kd.M (Kd.int .u32) _ _ _ ((a0 / 4294967296) % 4294967296) [.int .u32 ((a0 / 4294967296) % 4294967296)] from rfl) (Reps.none _ _)))); intro v178 w3 ho4 hb hg_ hnew_; clear hg_ hnew_; (first | rw [← Ny177.out] at ho4 | (simp only [Int.reduceToNat] at ho4; rw [← Ny177.out] at ho4)); have n0_ := Aside0.mk (Kd.R_lower ho4 (below_size (by repeat (first | (with_reducible first | exact HB.out | apply below_alloc | apply pw_below_drewN | apply below_drew1) | exact HB.out)))); have n1_ := Aside0.mk (below_step (by repeat (first | (with_reducible first | exact HB.out | apply below_alloc | apply pw_below_drewN | apply below_drew1) | exact HB.out)) hb); clear HB; have HO179 := n0_; have HB := n1_; clear n0_ n1_; clear hb ho4; obtain ⟨Ao5, co5, eo5⟩ := Kd.R_slice HO179.out; subst eo5) | ((with_reducible refine gate_callee (f := 35) rfl ?_); refine goesL_ (some 9) rfl rfl Try.func35 (by kernel_rfl) rfl #[.slice Ao5 y177.length co5] rfl (by first | rfl | (go_simp; first | done | rfl | ((try simp only [IntKind.wrap_u8, IntKind.wrap_u32, IntKind.wrap_u64]); omega))) ?_; (with_reducible refine (credenceref1_NatNorm.calls k _ _ y177 t180 _ ?side1 ?side2 A2.out).mono ?_); (case side1 => repeat first | exact (Kd.R_reads' HO179.out).2.2 | refine Kd.C_drewN ?_ _ | refine Kd.C_alloc ?_ _ | refine Kd.C_drew ?_); (case side2 => exact (Kd.R_reads' HO179.out).2.1); rintro e w6 ⟨v181, rfl, ho0, hb⟩; refine ⟨_, rfl, ?_⟩; have n0_ := Aside0.mk (Kd.R_elder' (zr HO179 rfl) (Kd.R_base ho0) hb); have n1_ := Aside0.mk (Kd.R_lower (Kd.R_new' ho0 (Kd.R_lt (zr HO179 rfl))) (below_size (zb HB rfl))); have n2_ := Aside0.mk (below_step (zb HB rfl) hb); clear HO179; clear HB; have HO179 := n0_; have HO182 := n1_; have HB := n2_; clear n0_ n1_ n2_))
 go_ret
 exact ⟨_, by first | rfl | (simp [*, errW_none, errW_some] <;> rfl), by (with_reducible repeat (first | apply Kd.R_alloc | apply Kd.R_drewN | apply Kd.R_drew)); exact Kd.R_mono HO182.out (fun _ hk => trivial), by repeat (first | (with_reducible first | exact HB.out | apply below_alloc | apply pw_below_drewN | apply below_drew1) | exact HB.out)⟩

mutual
def credenceref1_NatAdd.l0 : Nat → List Int → List Int → List Int → Int → Int → Option (List Int)
 | 0, _, _, _, _, _ => none
 | k + 1, x0, x1, x5, x6, x7 => if x7 < (x0.length : Int) then (credenceref1_NatAdd.j1 k x0 x1 x5 x6 x7 true) else (credenceref1_NatAdd.j1 k x0 x1 x5 x6 x7 (decide (x7 < (x1.length : Int))))
def credenceref1_NatAdd.j1 : Nat → List Int → List Int → List Int → Int → Int → Bool → Option (List Int)
 | 0, _, _, _, _, _, _ => none
 | k + 1, x0, x1, x5, x6, x7, x17 => if x17 = true then (if x7 < (x0.length : Int) then (if 0 ≤ x7 then (if x7 < (x1.length : Int) then (if x5.length < 35184372088832 then (credenceref1_NatAdd.l0 k x0 x1 (x5 ++ [(IntKind.u64.wrap ((IntKind.u64.wrap (x6 + (IntKind.u64.wrap (rd x0 x7)))) + (IntKind.u64.wrap (rd x1 x7)))) % 4294967296]) ((IntKind.u64.wrap ((IntKind.u64.wrap (x6 + (IntKind.u64.wrap (rd x0 x7)))) + (IntKind.u64.wrap (rd x1 x7)))) / 4294967296) (wrap64 (x7 + 1))) else (none)) else (if x5.length < 35184372088832 then (credenceref1_NatAdd.l0 k x0 x1 (x5 ++ [(IntKind.u64.wrap (x6 + (IntKind.u64.wrap (rd x0 x7)))) % 4294967296]) ((IntKind.u64.wrap (x6 + (IntKind.u64.wrap (rd x0 x7)))) / 4294967296) (wrap64 (x7 + 1))) else (none))) else (none)) else (if x7 < (x1.length : Int) then (if 0 ≤ x7 then (if x5.length < 35184372088832 then (credenceref1_NatAdd.l0 k x0 x1 (x5 ++ [(IntKind.u64.wrap (x6 + (IntKind.u64.wrap (rd x1 x7)))) % 4294967296]) ((IntKind.u64.wrap (x6 + (IntKind.u64.wrap (rd x1 x7)))) / 4294967296) (wrap64 (x7 + 1))) else (none)) else (none)) else (if x5.length < 35184372088832 then (credenceref1_NatAdd.l0 k x0 x1 (x5 ++ [(x6) % 4294967296]) (x6 / 4294967296) (wrap64 (x7 + 1))) else (none)))) else (if x5.length < 35184372088832 then ((credenceref1_NatNorm.f k (x5 ++ [(x6) % 4294967296])).bind fun t186 => (some t186)) else (none))
end
def credenceref1_NatAdd.f (k : Nat) (l0 : List Int) (l1 : List Int) : Option (List Int) := credenceref1_NatAdd.l0 k l0 l1 ([] : List Int) 0 0
theorem credenceref1_NatAdd.mono_l : ∀ k, (∀ y0 y1 y2 y3 y4, LeO (credenceref1_NatAdd.l0 k y0 y1 y2 y3 y4) (credenceref1_NatAdd.l0 (k + 1) y0 y1 y2 y3 y4)) ∧ (∀ y0 y1 y2 y3 y4 y5, LeO (credenceref1_NatAdd.j1 k y0 y1 y2 y3 y4 y5) (credenceref1_NatAdd.j1 (k + 1) y0 y1 y2 y3 y4 y5))
 | 0 => ⟨fun _ _ _ _ _ r h => by simp [credenceref1_NatAdd.l0] at h, fun _ _ _ _ _ _ r h => by simp [credenceref1_NatAdd.j1] at h⟩
 | k + 1 => by
  obtain ⟨ih0, ih1⟩ := credenceref1_NatAdd.mono_l k
  refine ⟨?_, ?_⟩
  ·
   intro y0 y1 y2 y3 y4
   unfold credenceref1_NatAdd.l0
   repeat' first
   | (with_reducible exact ih0 _ _ _ _ _)
   | (with_reducible exact ih1 _ _ _ _ _ _)
   | (with_reducible exact credenceref1_NatNorm.mono _ _)
   | (with_reducible exact LeO.refl _)
   | (with_reducible exact LeO.none _)
   | (with_reducible refine LeO.ite ?_ ?_)
   | (with_reducible refine LeO.bind ?_ (fun _ => ?_))
   | exact ih0 _ _ _ _ _
   | exact ih1 _ _ _ _ _ _
   | exact credenceref1_NatNorm.mono _ _
   | exact LeO.none _
   | refine LeO.ite ?_ ?_
   | refine LeO.bind ?_ (fun _ => ?_)
  ·
   intro y0 y1 y2 y3 y4 y5
   unfold credenceref1_NatAdd.j1
   repeat' first
   | (with_reducible exact ih0 _ _ _ _ _)
   | (with_reducible exact ih1 _ _ _ _ _ _)
   | (with_reducible exact credenceref1_NatNorm.mono _ _)
   | (with_reducible exact LeO.refl _)
   | (with_reducible exact LeO.none _)
   | (with_reducible refine LeO.ite ?_ ?_)
   | (with_reducible refine LeO.bind ?_ (fun _ => ?_))
   | exact ih0 _ _ _ _ _
   | exact ih1 _ _ _ _ _ _
   | exact credenceref1_NatNorm.mono _ _
   | exact LeO.none _
   | refine LeO.ite ?_ ?_
   | refine LeO.bind ?_ (fun _ => ?_)
theorem credenceref1_NatAdd.mono : ∀ a0 a1 k, LeO (credenceref1_NatAdd.f k a0 a1) (credenceref1_NatAdd.f (k + 1) a0 a1) := by
 intro a0 a1 k
 obtain ⟨ih0, ih1⟩ := credenceref1_NatAdd.mono_l k
 unfold credenceref1_NatAdd.f
 repeat' first
   | (with_reducible exact ih0 _ _ _ _ _)
   | (with_reducible exact ih1 _ _ _ _ _ _)
   | (with_reducible exact credenceref1_NatNorm.mono _ _)
   | (with_reducible exact LeO.refl _)
   | (with_reducible exact LeO.none _)
   | (with_reducible refine LeO.ite ?_ ?_)
   | (with_reducible refine LeO.bind ?_ (fun _ => ?_))
   | exact ih0 _ _ _ _ _
   | exact ih1 _ _ _ _ _ _
   | exact credenceref1_NatNorm.mono _ _
   | exact LeO.none _
   | refine LeO.ite ?_ ?_
   | refine LeO.bind ?_ (fun _ => ?_)
set_option maxHeartbeats 8000000 in
set_option maxRecDepth 100000 in
theorem credenceref1_NatAdd.calls (k : Nat) (A0 : Option Addr) (c0 : Nat) (l0 : List Int) (A1 : Option Addr) (c1 : Nat) (l1 : List Int) (r : List Int) (w : World) (hr0 : Kd.C (Kd.int .u32) w A0 l0.length l0) (hc0 : l0.length ≤ c0) (hr1 : Kd.C (Kd.int .u32) w A1 l1.length l1) (hc1 : l1.length ≤ c1) (h : credenceref1_NatAdd.f k l0 l1 = some r) :
  Calls Try.prog 38 #[.slice A0 l0.length c0, .slice A1 l1.length c1] w fun e w' => ∃ v0_ : Value, e = .returned (v0_) ∧ Kd.R (Kd.int .u32) 43 w' w.heap.size (fun _ => True) v0_ r ∧ Below w.heap.size w w' := by
 have HR0 := Aside0.mk hr0
 have HC0 := Aside0.mk hc0
 clear hr0 hc0
 have HR1 := Aside0.mk hr1
 have HC1 := Aside0.mk hc1
 clear hr1 hc1
 have HB := Aside0.mk (Below.refl w.heap.size w)
 have H : (credenceref1_NatAdd.l0 k l0 l1 ([] : List Int) 0 0) = some r := h
 clear h
 have H' := Aside0.mk H
 clear H
 go_enter Try.func38, Try.ntmps38
 go_wp2
 go_loopg [5, 6, 7] k (fun kq v5 v6 v7 w' => ∃ (x5_1 : List Int) (x6_1 : Int) (x7_1 : Int), v6 = .int .u64 x6_1 ∧ v7 = .int .i64 x7_1 ∧ Aside0 (credenceref1_NatAdd.l0 kq l0 l1 x5_1 x6_1 x7_1 = some r) ∧ Aside0 (kq ≤ k) ∧ Aside0 (Kd.R (Kd.int .u32) 43 w' w.heap.size (fun _ => True) v5 x5_1) ∧ Aside0 (Below w.heap.size w w'))
 case atStart => exact ⟨(([] : List Int)), (0), (0), (by first | rfl | (simp [*]; done)), (by first | rfl | (simp [*]; done)), H', ⟨Nat.le_refl _⟩, ⟨by first | exact Kd.R_nil _ _ _ _ _ | exact Kd.V_nil _ _ _ _ _⟩, ⟨by repeat (first | (with_reducible first | exact HB.out | apply below_alloc | apply pw_below_drewN | apply below_drew1) | exact HB.out)⟩⟩
 case round =>
  clear H'
  try clear c1
  try clear p2
  obtain ⟨x5_1, x6_1, x7_1, rfl, rfl, HA, HK1, HO_5, HB⟩ := hrel
  cases gk with
  | zero => exact absurd HA.out (by simp [credenceref1_NatAdd.l0])
  | succ k1 =>
   have H := HA.out
   clear HA
   simp only [credenceref1_NatAdd.l0] at H
   have HC3 := Aside0.mk H
   clear H
   go_upto_region 4 with (fail)
   go_cut [17] (fun v17 wc => ∃ (kq : Nat) (x17_2 : Bool), v17 = .bool x17_2 ∧ Aside0 (credenceref1_NatAdd.j1 kq l0 l1 x5_1 x6_1 x7_1 x17_2 = some r) ∧ Aside0 (kq ≤ k1) ∧ Aside0 (Kd.R (Kd.int .u32) 43 wc w.heap.size (fun _ => True) u5 x5_1) ∧ Aside0 (Below w.heap.size w wc))
   case first =>
    have H := HC3.out
    clear HC3
    by_cases c4 : x7_1 < (l0.length : Int)
    ·
     rw [if_pos c4] at H
     have c4b0 : decide (x7_1 < (l0.length : Int)) = true := decide_eq_true c4
     clear c4
     (first | rw [c4b0] | rw [c4b1] | (simp only [i64_w, i32_w]; rw [c4b0]) | skip)
     have H' := Aside0.mk H
     clear H
     go_wp2
     go_meet
     case rel => exact ⟨_, (true), (by first | rfl | (simp [*]; done)), H', ⟨by have := HK1.out; first | omega | exact Nat.le_refl _⟩, ⟨by (with_reducible repeat (first | apply Kd.R_alloc | apply Kd.R_drewN | apply Kd.R_drew)); exact HO_5.out⟩, ⟨by repeat (first | (with_reducible first | exact HB.out | apply below_alloc | apply pw_below_drewN | apply below_drew1) | exact HB.out)⟩⟩
    ·
     rw [if_neg c4] at H
     have c4b0 : decide (x7_1 < (l0.length : Int)) = false := decide_eq_false c4
     clear c4
     (first | rw [c4b0] | rw [c4b1] | (simp only [i64_w, i32_w]; rw [c4b0]) | skip)
     have H' := Aside0.mk H
     clear H
     go_wp2
     go_meet
     case rel => exact ⟨_, (decide (x7_1 < (l1.length : Int))), (by first | rfl | (simp [*]; done)), H', ⟨by have := HK1.out; first | omega | exact Nat.le_refl _⟩, ⟨by (with_reducible repeat (first | apply Kd.R_alloc | apply Kd.R_drewN | apply Kd.R_drew)); exact HO_5.out⟩, ⟨by repeat (first | (with_reducible first | exact HB.out | apply below_alloc | apply pw_below_drewN | apply below_drew1) | exact HB.out)⟩⟩
   case rest =>
    clear HC3
    try clear c1
    try clear p2
    try clear c3
    try clear c4
    try clear c4b0
    try clear p2
    obtain ⟨kq, x17_2, rfl, HA, HJ2, HO_5, HB⟩ := hcut
    cases kq with
    | zero => exact absurd HA.out (by simp [credenceref1_NatAdd.j1])
    | succ kj2 =>
     have H := HA.out
     clear HA
     simp only [credenceref1_NatAdd.j1] at H
     by_cases c5 : x17_2 = true
     ·
      subst c5
      have H1 : (if x7_1 < (l0.length : Int) then (if 0 ≤ x7_1 then (if x7_1 < (l1.length : Int) then (if x5_1.length < 35184372088832 then (credenceref1_NatAdd.l0 kj2 l0 l1 (x5_1 ++ [(IntKind.u64.wrap ((IntKind.u64.wrap (x6_1 + (IntKind.u64.wrap (rd l0 x7_1)))) + (IntKind.u64.wrap (rd l1 x7_1)))) % 4294967296]) ((IntKind.u64.wrap ((IntKind.u64.wrap (x6_1 + (IntKind.u64.wrap (rd l0 x7_1)))) + (IntKind.u64.wrap (rd l1 x7_1)))) / 4294967296) (wrap64 (x7_1 + 1))) else (none)) else (if x5_1.length < 35184372088832 then (credenceref1_NatAdd.l0 kj2 l0 l1 (x5_1 ++ [(IntKind.u64.wrap (x6_1 + (IntKind.u64.wrap (rd l0 x7_1)))) % 4294967296]) ((IntKind.u64.wrap (x6_1 + (IntKind.u64.wrap (rd l0 x7_1)))) / 4294967296) (wrap64 (x7_1 + 1))) else (none))) else (none)) else (if x7_1 < (l1.length : Int) then (if 0 ≤ x7_1 then (if x5_1.length < 35184372088832 then (credenceref1_NatAdd.l0 kj2 l0 l1 (x5_1 ++ [(IntKind.u64.wrap (x6_1 + (IntKind.u64.wrap (rd l1 x7_1)))) % 4294967296]) ((IntKind.u64.wrap (x6_1 + (IntKind.u64.wrap (rd l1 x7_1)))) / 4294967296) (wrap64 (x7_1 + 1))) else (none)) else (none)) else (if x5_1.length < 35184372088832 then (credenceref1_NatAdd.l0 kj2 l0 l1 (x5_1 ++ [(x6_1) % 4294967296]) (x6_1 / 4294967296) (wrap64 (x7_1 + 1))) else (none)))) = some r := by rw [if_pos rfl] at H; exact H
      clear H
      have H := H1
      clear H1
      by_cases c6 : x7_1 < (l0.length : Int)
      ·
       rw [if_pos c6] at H
       have c6b0 : decide (x7_1 < (l0.length : Int)) = true := decide_eq_true c6
       clear c6
       by_cases c7 : 0 ≤ x7_1
       ·
        rw [if_pos c7] at H
        have c7b0 : decide (0 ≤ x7_1) = true := decide_eq_true c7
        clear c7
        by_cases c8 : x7_1 < (l1.length : Int)
        ·
         rw [if_pos c8] at H
         have c8b0 : decide (x7_1 < (l1.length : Int)) = true := decide_eq_true c8
         clear c8
         by_cases c9 : x5_1.length < 35184372088832
         ·
          rw [if_pos c9] at H
          have LMc9 := Aside0.mk c9
          clear c9
          obtain ⟨y191, hy191⟩ : ∃ y_ : List Int, y_ = (x5_1 ++ [(IntKind.u64.wrap ((IntKind.u64.wrap (x6_1 + (IntKind.u64.wrap (rd l0 x7_1)))) + (IntKind.u64.wrap (rd l1 x7_1)))) % 4294967296]) := ⟨_, rfl⟩
          replace H : (credenceref1_NatAdd.l0 kj2 l0 l1 y191 ((IntKind.u64.wrap ((IntKind.u64.wrap (x6_1 + (IntKind.u64.wrap (rd l0 x7_1)))) + (IntKind.u64.wrap (rd l1 x7_1)))) / 4294967296) (wrap64 (x7_1 + 1))) = some r := by first | (rw [hy191]; with_reducible exact H) | (have H2_ := (Option.bind_some _ _).symm.trans H; rw [hy191]; with_reducible exact H2_) | (have H2_ := (Option.bind_some _ _).symm.trans H; with_reducible exact H2_) | with_reducible exact H | (rw [hy191]; exact H) | exact H
          have Ny191 := Aside0.mk hy191
          clear hy191
          have H' := Aside0.mk H
          clear H
          have p189 : 0 ≤ (x7_1 : Int) := of_decide_eq_true (by first | (with_reducible assumption) | assumption)
          have q189 : x7_1 < (l0.length : Int) := of_decide_eq_true (by first | (with_reducible assumption) | assumption)
          obtain ⟨ad189, e189, hx189_0⟩ := Kd.at_int HR0.out x7_1 p189 q189
          cases e189
          replace hx189_0 := (HB.out.cell (World.block_lt_of_cell? w _ hx189_0)).trans hx189_0
          replace p189 := eq_true p189
          replace q189 := eq_true q189
          have p190 : 0 ≤ (x7_1 : Int) := of_decide_eq_true (by first | (with_reducible assumption) | assumption)
          have q190 : x7_1 < (l1.length : Int) := of_decide_eq_true (by first | (with_reducible assumption) | assumption)
          obtain ⟨ad190, e190, hx190_0⟩ := Kd.at_int HR1.out x7_1 p190 q190
          cases e190
          replace hx190_0 := (HB.out.cell (World.block_lt_of_cell? w _ hx190_0)).trans hx190_0
          replace p190 := eq_true p190
          replace q190 := eq_true q190
          go_wp2_with (first | ((with_reducible refine gate_builtin (b := .append) (xs := #[.tmp 42, .tmp 45]) rfl ?_); (try (refine gate_guard (by rfl) ?_; dsimp only)); at_builtin; refine Kd.R_append (Kd.int .u32) (w0 := w) w.heap.size rfl (.tmp 42) (.tmp 45) 23 43 (.int .u32 0) 4 rfl Try.underlying23 info43 rfl (by decide) (by omega) u5 x5_1 ((IntKind.u64.wrap ((IntKind.u64.wrap (x6_1 + (IntKind.u64.wrap (rd l0 x7_1)))) + (IntKind.u64.wrap (rd l1 x7_1)))) % 4294967296) [.int .u32 ((IntKind.u64.wrap ((IntKind.u64.wrap (x6_1 + (IntKind.u64.wrap (rd l0 x7_1)))) + (IntKind.u64.wrap (rd l1 x7_1)))) % 4294967296)] (fun _ => True) (fun _ => False) rfl rfl ?aP (fun _ hk => hk.elim) ?aF ?aO ?aB ?aS ?aL ?_; (case aP => exact rfl); (case aB => exact (by repeat (first | (with_reducible first | exact HB.out | apply below_alloc | apply pw_below_drewN | apply below_drew1) | exact HB.out))); (case aF => exact (fun _ _ => trivial)); (case aO => exact (by (with_reducible repeat (first | apply Kd.R_alloc | apply Kd.R_drewN | apply Kd.R_drew)); exact HO_5.out)); (case aS => exact (below_size (by repeat (first | (with_reducible first | exact HB.out | apply below_alloc | apply pw_below_drewN | apply below_drew1) | exact HB.out)))); (case aL => have := LMc9.out; omega); intro v192 w10 ho hb hg hat; rw [← Ny191.out] at ho; have n0_ := Aside0.mk (hb); have n1_ := Aside0.mk (ho); clear HB; clear HO_5; have HB := n0_; have HO193 := n1_; clear n0_ n1_; clear ho hb hg hat))
          go_roundg kj2
          case measure => have := HK1.out; have := HJ2.out; omega
          case rel => exact ⟨(y191), ((IntKind.u64.wrap ((IntKind.u64.wrap (x6_1 + (IntKind.u64.wrap (rd l0 x7_1)))) + (IntKind.u64.wrap (rd l1 x7_1)))) / 4294967296), (wrap64 (x7_1 + 1)), (by first | rfl | (simp [*]; done)), (by first | rfl | (simp [*]; done)), H', ⟨by have := HK1.out; have := HJ2.out; omega⟩, ⟨by (with_reducible repeat (first | apply Kd.R_alloc | apply Kd.R_drewN | apply Kd.R_drew)); exact HO193.out⟩, ⟨by repeat (first | (with_reducible first | exact HB.out | apply below_alloc | apply pw_below_drewN | apply below_drew1) | exact HB.out)⟩⟩
         ·
          rw [if_neg c9] at H
          exact absurd H (by simp)
        ·
         rw [if_neg c8] at H
         have c8b0 : decide (x7_1 < (l1.length : Int)) = false := decide_eq_false c8
         clear c8
         by_cases c11 : x5_1.length < 35184372088832
         ·
          rw [if_pos c11] at H
          have LMc11 := Aside0.mk c11
          clear c11
          obtain ⟨y194, hy194⟩ : ∃ y_ : List Int, y_ = (x5_1 ++ [(IntKind.u64.wrap (x6_1 + (IntKind.u64.wrap (rd l0 x7_1)))) % 4294967296]) := ⟨_, rfl⟩
          replace H : (credenceref1_NatAdd.l0 kj2 l0 l1 y194 ((IntKind.u64.wrap (x6_1 + (IntKind.u64.wrap (rd l0 x7_1)))) / 4294967296) (wrap64 (x7_1 + 1))) = some r := by first | (rw [hy194]; with_reducible exact H) | (have H2_ := (Option.bind_some _ _).symm.trans H; rw [hy194]; with_reducible exact H2_) | (have H2_ := (Option.bind_some _ _).symm.trans H; with_reducible exact H2_) | with_reducible exact H | (rw [hy194]; exact H) | exact H
          have Ny194 := Aside0.mk hy194
          clear hy194
          have H' := Aside0.mk H
          clear H
          have p189 : 0 ≤ (x7_1 : Int) := of_decide_eq_true (by first | (with_reducible assumption) | assumption)
          have q189 : x7_1 < (l0.length : Int) := of_decide_eq_true (by first | (with_reducible assumption) | assumption)
          obtain ⟨ad189, e189, hx189_0⟩ := Kd.at_int HR0.out x7_1 p189 q189
          cases e189
          replace hx189_0 := (HB.out.cell (World.block_lt_of_cell? w _ hx189_0)).trans hx189_0
          replace p189 := eq_true p189
          replace q189 := eq_true q189
          go_wp2_with (first | ((with_reducible refine gate_builtin (b := .append) (xs := #[.tmp 42, .tmp 45]) rfl ?_); (try (refine gate_guard (by rfl) ?_; dsimp only)); at_builtin; refine Kd.R_append (Kd.int .u32) (w0 := w) w.heap.size rfl (.tmp 42) (.tmp 45) 23 43 (.int .u32 0) 4 rfl Try.underlying23 info43 rfl (by decide) (by omega) u5 x5_1 ((IntKind.u64.wrap (x6_1 + (IntKind.u64.wrap (rd l0 x7_1)))) % 4294967296) [.int .u32 ((IntKind.u64.wrap (x6_1 + (IntKind.u64.wrap (rd l0 x7_1)))) % 4294967296)] (fun _ => True) (fun _ => False) rfl rfl ?aP (fun _ hk => hk.elim) ?aF ?aO ?aB ?aS ?aL ?_; (case aP => exact rfl); (case aB => exact (by repeat (first | (with_reducible first | exact HB.out | apply below_alloc | apply pw_below_drewN | apply below_drew1) | exact HB.out))); (case aF => exact (fun _ _ => trivial)); (case aO => exact (by (with_reducible repeat (first | apply Kd.R_alloc | apply Kd.R_drewN | apply Kd.R_drew)); exact HO_5.out)); (case aS => exact (below_size (by repeat (first | (with_reducible first | exact HB.out | apply below_alloc | apply pw_below_drewN | apply below_drew1) | exact HB.out)))); (case aL => have := LMc11.out; omega); intro v195 w12 ho hb hg hat; rw [← Ny194.out] at ho; have n0_ := Aside0.mk (hb); have n1_ := Aside0.mk (ho); clear HB; clear HO_5; have HB := n0_; have HO196 := n1_; clear n0_ n1_; clear ho hb hg hat))
          go_roundg kj2
          case measure => have := HK1.out; have := HJ2.out; omega
          case rel => exact ⟨(y194), ((IntKind.u64.wrap (x6_1 + (IntKind.u64.wrap (rd l0 x7_1)))) / 4294967296), (wrap64 (x7_1 + 1)), (by first | rfl | (simp [*]; done)), (by first | rfl | (simp [*]; done)), H', ⟨by have := HK1.out; have := HJ2.out; omega⟩, ⟨by (with_reducible repeat (first | apply Kd.R_alloc | apply Kd.R_drewN | apply Kd.R_drew)); exact HO196.out⟩, ⟨by repeat (first | (with_reducible first | exact HB.out | apply below_alloc | apply pw_below_drewN | apply below_drew1) | exact HB.out)⟩⟩
         ·
          rw [if_neg c11] at H
          exact absurd H (by simp)
       ·
        rw [if_neg c7] at H
        exact absurd H (by simp)
      ·
       rw [if_neg c6] at H
       have c6b0 : decide (x7_1 < (l0.length : Int)) = false := decide_eq_false c6
       clear c6
       by_cases c13 : x7_1 < (l1.length : Int)
       ·
        rw [if_pos c13] at H
        have c13b0 : decide (x7_1 < (l1.length : Int)) = true := decide_eq_true c13
        clear c13
        by_cases c14 : 0 ≤ x7_1
        ·
         rw [if_pos c14] at H
         have c14b0 : decide (0 ≤ x7_1) = true := decide_eq_true c14
         clear c14
         by_cases c15 : x5_1.length < 35184372088832
         ·
          rw [if_pos c15] at H
          have LMc15 := Aside0.mk c15
          clear c15
          obtain ⟨y198, hy198⟩ : ∃ y_ : List Int, y_ = (x5_1 ++ [(IntKind.u64.wrap (x6_1 + (IntKind.u64.wrap (rd l1 x7_1)))) % 4294967296]) := ⟨_, rfl⟩
          replace H : (credenceref1_NatAdd.l0 kj2 l0 l1 y198 ((IntKind.u64.wrap (x6_1 + (IntKind.u64.wrap (rd l1 x7_1)))) / 4294967296) (wrap64 (x7_1 + 1))) = some r := by first | (rw [hy198]; with_reducible exact H) | (have H2_ := (Option.bind_some _ _).symm.trans H; rw [hy198]; with_reducible exact H2_) | (have H2_ := (Option.bind_some _ _).symm.trans H; with_reducible exact H2_) | with_reducible exact H | (rw [hy198]; exact H) | exact H
          have Ny198 := Aside0.mk hy198
          clear hy198
          have H' := Aside0.mk H
          clear H
          have p197 : 0 ≤ (x7_1 : Int) := of_decide_eq_true (by first | (with_reducible assumption) | assumption)
          have q197 : x7_1 < (l1.length : Int) := of_decide_eq_true (by first | (with_reducible assumption) | assumption)
          obtain ⟨ad197, e197, hx197_0⟩ := Kd.at_int HR1.out x7_1 p197 q197
          cases e197
          replace hx197_0 := (HB.out.cell (World.block_lt_of_cell? w _ hx197_0)).trans hx197_0
          replace p197 := eq_true p197
          replace q197 := eq_true q197
          go_wp2_with (first | ((with_reducible refine gate_builtin (b := .append) (xs := #[.tmp 42, .tmp 45]) rfl ?_); (try (refine gate_guard (by rfl) ?_; dsimp only)); at_builtin; refine Kd.R_append (Kd.int .u32) (w0 := w) w.heap.size rfl (.tmp 42) (.tmp 45) 23 43 (.int .u32 0) 4 rfl Try.underlying23 info43 rfl (by decide) (by omega) u5 x5_1 ((IntKind.u64.wrap (x6_1 + (IntKind.u64.wrap (rd l1 x7_1)))) % 4294967296) [.int .u32 ((IntKind.u64.wrap (x6_1 + (IntKind.u64.wrap (rd l1 x7_1)))) % 4294967296)] (fun _ => True) (fun _ => False) rfl rfl ?aP (fun _ hk => hk.elim) ?aF ?aO ?aB ?aS ?aL ?_; (case aP => exact rfl); (case aB => exact (by repeat (first | (with_reducible first | exact HB.out | apply below_alloc | apply pw_below_drewN | apply below_drew1) | exact HB.out))); (case aF => exact (fun _ _ => trivial)); (case aO => exact (by (with_reducible repeat (first | apply Kd.R_alloc | apply Kd.R_drewN | apply Kd.R_drew)); exact HO_5.out)); (case aS => exact (below_size (by repeat (first | (with_reducible first | exact HB.out | apply below_alloc | apply pw_below_drewN | apply below_drew1) | exact HB.out)))); (case aL => have := LMc15.out; omega); intro v199 w16 ho hb hg hat; rw [← Ny198.out] at ho; have n0_ := Aside0.mk (hb); have n1_ := Aside0.mk (ho); clear HB; clear HO_5; have HB := n0_; have HO200 := n1_; clear n0_ n1_; clear ho hb hg hat))
          go_roundg kj2
          case measure => have := HK1.out; have := HJ2.out; omega
          case rel => exact ⟨(y198), ((IntKind.u64.wrap (x6_1 + (IntKind.u64.wrap (rd l1 x7_1)))) / 4294967296), (wrap64 (x7_1 + 1)), (by first | rfl | (simp [*]; done)), (by first | rfl | (simp [*]; done)), H', ⟨by have := HK1.out; have := HJ2.out; omega⟩, ⟨by (with_reducible repeat (first | apply Kd.R_alloc | apply Kd.R_drewN | apply Kd.R_drew)); exact HO200.out⟩, ⟨by repeat (first | (with_reducible first | exact HB.out | apply below_alloc | apply pw_below_drewN | apply below_drew1) | exact HB.out)⟩⟩
         ·
          rw [if_neg c15] at H
          exact absurd H (by simp)
        ·
         rw [if_neg c14] at H
         exact absurd H (by simp)
       ·
        rw [if_neg c13] at H
        have c13b0 : decide (x7_1 < (l1.length : Int)) = false := decide_eq_false c13
        clear c13
        by_cases c17 : x5_1.length < 35184372088832
        ·
         rw [if_pos c17] at H
         have LMc17 := Aside0.mk c17
         clear c17
         obtain ⟨y201, hy201⟩ : ∃ y_ : List Int, y_ = (x5_1 ++ [(x6_1) % 4294967296]) := ⟨_, rfl⟩
         replace H : (credenceref1_NatAdd.l0 kj2 l0 l1 y201 (x6_1 / 4294967296) (wrap64 (x7_1 + 1))) = some r := by first | (rw [hy201]; with_reducible exact H) | (have H2_ := (Option.bind_some _ _).symm.trans H; rw [hy201]; with_reducible exact H2_) | (have H2_ := (Option.bind_some _ _).symm.trans H; with_reducible exact H2_) | with_reducible exact H | (rw [hy201]; exact H) | exact H
         have Ny201 := Aside0.mk hy201
         clear hy201
         have H' := Aside0.mk H
         clear H
         go_wp2_with (first | ((with_reducible refine gate_builtin (b := .append) (xs := #[.tmp 42, .tmp 45]) rfl ?_); (try (refine gate_guard (by rfl) ?_; dsimp only)); at_builtin; refine Kd.R_append (Kd.int .u32) (w0 := w) w.heap.size rfl (.tmp 42) (.tmp 45) 23 43 (.int .u32 0) 4 rfl Try.underlying23 info43 rfl (by decide) (by omega) u5 x5_1 ((x6_1) % 4294967296) [.int .u32 ((x6_1) % 4294967296)] (fun _ => True) (fun _ => False) rfl rfl ?aP (fun _ hk => hk.elim) ?aF ?aO ?aB ?aS ?aL ?_; (case aP => exact rfl); (case aB => exact (by repeat (first | (with_reducible first | exact HB.out | apply below_alloc | apply pw_below_drewN | apply below_drew1) | exact HB.out))); (case aF => exact (fun _ _ => trivial)); (case aO => exact (by (with_reducible repeat (first | apply Kd.R_alloc | apply Kd.R_drewN | apply Kd.R_drew)); exact HO_5.out)); (case aS => exact (below_size (by repeat (first | (with_reducible first | exact HB.out | apply below_alloc | apply pw_below_drewN | apply below_drew1) | exact HB.out)))); (case aL => have := LMc17.out; omega); intro v202 w18 ho hb hg hat; rw [← Ny201.out] at ho; have n0_ := Aside0.mk (hb); have n1_ := Aside0.mk (ho); clear HB; clear HO_5; have HB := n0_; have HO203 := n1_; clear n0_ n1_; clear ho hb hg hat))
         go_roundg kj2
         case measure => have := HK1.out; have := HJ2.out; omega
         case rel => exact ⟨(y201), (x6_1 / 4294967296), (wrap64 (x7_1 + 1)), (by first | rfl | (simp [*]; done)), (by first | rfl | (simp [*]; done)), H', ⟨by have := HK1.out; have := HJ2.out; omega⟩, ⟨by (with_reducible repeat (first | apply Kd.R_alloc | apply Kd.R_drewN | apply Kd.R_drew)); exact HO203.out⟩, ⟨by repeat (first | (with_reducible first | exact HB.out | apply below_alloc | apply pw_below_drewN | apply below_drew1) | exact HB.out)⟩⟩
        ·
         rw [if_neg c17] at H
         exact absurd H (by simp)
     ·
      replace c5 := Bool.eq_false_iff.mpr c5
      subst c5
      have H1 : (if x5_1.length < 35184372088832 then ((credenceref1_NatNorm.f kj2 (x5_1 ++ [(x6_1) % 4294967296])).bind fun t186 => (some t186)) else (none)) = some r := by rw [if_neg (show ¬ (false = true) by decide)] at H; exact H
      clear H
      have H := H1
      clear H1
      by_cases c19 : x5_1.length < 35184372088832
      ·
       rw [if_pos c19] at H
       have LMc19 := Aside0.mk c19
       clear c19
       obtain ⟨y183, hy183⟩ : ∃ y_ : List Int, y_ = (x5_1 ++ [(x6_1) % 4294967296]) := ⟨_, rfl⟩
       replace H : ((credenceref1_NatNorm.f kj2 y183).bind fun t186 => (some t186)) = some r := by first | (rw [hy183]; with_reducible exact H) | (have H2_ := (Option.bind_some _ _).symm.trans H; rw [hy183]; with_reducible exact H2_) | (have H2_ := (Option.bind_some _ _).symm.trans H; with_reducible exact H2_) | with_reducible exact H | (rw [hy183]; exact H) | exact H
       have Ny183 := Aside0.mk hy183
       clear hy183
       replace H := Option.bind_eq_some_iff.mp H
       obtain ⟨t186, A200, H⟩ := H
       replace H : (some t186) = some r := H
       have A20 := Aside0.mk A200
       clear A200
       obtain rfl := Option.some.inj H
       go_wp2_with (first | ((with_reducible refine gate_builtin (b := .append) (xs := #[.tmp 49, .tmp 52]) rfl ?_); (try (refine gate_guard (by rfl) ?_; dsimp only)); at_builtin; refine Kd.R_append (Kd.int .u32) (w0 := w) w.heap.size rfl (.tmp 49) (.tmp 52) 23 43 (.int .u32 0) 4 rfl Try.underlying23 info43 rfl (by decide) (by omega) u5 x5_1 ((x6_1) % 4294967296) [.int .u32 ((x6_1) % 4294967296)] (fun _ => True) (fun _ => False) rfl rfl ?aP (fun _ hk => hk.elim) ?aF ?aO ?aB ?aS ?aL ?_; (case aP => exact rfl); (case aB => exact (by repeat (first | (with_reducible first | exact HB.out | apply below_alloc | apply pw_below_drewN | apply below_drew1) | exact HB.out))); (case aF => exact (fun _ _ => trivial)); (case aO => exact (by (with_reducible repeat (first | apply Kd.R_alloc | apply Kd.R_drewN | apply Kd.R_drew)); exact HO_5.out)); (case aS => exact (below_size (by repeat (first | (with_reducible first | exact HB.out | apply below_alloc | apply pw_below_drewN | apply below_drew1) | exact HB.out)))); (case aL => have := LMc19.out; omega); intro v184 w21 ho hb hg hat; rw [← Ny183.out] at ho; have n0_ := Aside0.mk (hb); have n1_ := Aside0.mk (ho); clear HB; clear HO_5; have HB := n0_; have HO185 := n1_; clear n0_ n1_; clear ho hb hg hat; obtain ⟨Ao22, co22, eo22⟩ := Kd.R_slice HO185.out; subst eo22) | ((with_reducible refine gate_callee (f := 35) rfl ?_); refine goesL_ (some 54) rfl rfl Try.func35 (by kernel_rfl) rfl #[.slice Ao22 y183.length co22] rfl (by first | rfl | (go_simp; first | done | rfl | ((try simp only [IntKind.wrap_u8, IntKind.wrap_u32, IntKind.wrap_u64]); omega))) ?_; (with_reducible refine (credenceref1_NatNorm.calls kj2 _ _ y183 t186 _ ?side1 ?side2 A20.out).mono ?_); (case side1 => repeat first | exact (Kd.R_reads' HO185.out).2.2 | refine Kd.C_drewN ?_ _ | refine Kd.C_alloc ?_ _ | refine Kd.C_drew ?_); (case side2 => exact (Kd.R_reads' HO185.out).2.1); rintro e w23 ⟨v187, rfl, ho0, hb⟩; refine ⟨_, rfl, ?_⟩; have n0_ := Aside0.mk (Kd.R_elder' (zr HO185 rfl) (Kd.R_base ho0) hb); have n1_ := Aside0.mk (Kd.R_lower (Kd.R_new' ho0 (Kd.R_lt (zr HO185 rfl))) (below_size (zb HB rfl))); have n2_ := Aside0.mk (below_step (zb HB rfl) hb); clear HO185; clear HB; have HO185 := n0_; have HO188 := n1_; have HB := n2_; clear n0_ n1_ n2_))
       go_ret
       exact ⟨_, by first | rfl | (simp [*, errW_none, errW_some] <;> rfl), by (with_reducible repeat (first | apply Kd.R_alloc | apply Kd.R_drewN | apply Kd.R_drew)); exact Kd.R_mono HO188.out (fun _ hk => trivial), by repeat (first | (with_reducible first | exact HB.out | apply below_alloc | apply pw_below_drewN | apply below_drew1) | exact HB.out)⟩
      ·
       rw [if_neg c19] at H
       exact absurd H (by simp)

mutual
def credenceref1_NatMul.l0 : Nat → List Int → List Int → List Int → Int → Option (List Int)
 | 0, _, _, _, _ => none
 | k + 1, x0, x1, x5, x6 => if x6 < (x0.length : Int) then (credenceref1_NatMul.l1 k x0 x1 x5 x6 0 0) else ((credenceref1_NatNorm.f k x5).bind fun t207 => (some t207))
def credenceref1_NatMul.l1 : Nat → List Int → List Int → List Int → Int → Int → Int → Option (List Int)
 | 0, _, _, _, _, _, _ => none
 | k + 1, x0, x1, x5, x6, x7, x8 => if x8 < (x1.length : Int) then (if 0 ≤ (wrap64 (x6 + x8)) then (if (wrap64 (x6 + x8)) < (x5.length : Int) then (if 0 ≤ x6 then (if x6 < (x0.length : Int) then (if 0 ≤ x8 then (credenceref1_NatMul.l1 k x0 x1 (x5.set ((wrap64 (x6 + x8)) : Int).toNat ((IntKind.u64.wrap ((IntKind.u64.wrap (x7 + (IntKind.u64.wrap (rd x5 (wrap64 (x6 + x8)))))) + (IntKind.u64.wrap ((IntKind.u64.wrap (rd x0 x6)) * (IntKind.u64.wrap (rd x1 x8)))))) % 4294967296)) x6 ((IntKind.u64.wrap ((IntKind.u64.wrap (x7 + (IntKind.u64.wrap (rd x5 (wrap64 (x6 + x8)))))) + (IntKind.u64.wrap ((IntKind.u64.wrap (rd x0 x6)) * (IntKind.u64.wrap (rd x1 x8)))))) / 4294967296) (wrap64 (x8 + 1))) else (none)) else (none)) else (none)) else (none)) else (none)) else (if 0 ≤ (wrap64 (x6 + (x1.length : Int))) then (if (wrap64 (x6 + (x1.length : Int))) < (x5.length : Int) then (credenceref1_NatMul.l0 k x0 x1 (x5.set ((wrap64 (x6 + (x1.length : Int))) : Int).toNat ((x7) % 4294967296)) (wrap64 (x6 + 1))) else (none)) else (none))
end
def credenceref1_NatMul.f (k : Nat) (l0 : List Int) (l1 : List Int) : Option (List Int) := if 0 ≤ (wrap64 ((l0.length : Int) + (l1.length : Int))) then (if (wrap64 ((l0.length : Int) + (l1.length : Int)) : Int).toNat ≤ 70368744177664 then (credenceref1_NatMul.l0 k l0 l1 (List.replicate (wrap64 ((l0.length : Int) + (l1.length : Int)) : Int).toNat 0) 0) else (none)) else (none)
theorem credenceref1_NatMul.mono_l : ∀ k, (∀ y0 y1 y2 y3, LeO (credenceref1_NatMul.l0 k y0 y1 y2 y3) (credenceref1_NatMul.l0 (k + 1) y0 y1 y2 y3)) ∧ (∀ y0 y1 y2 y3 y4 y5, LeO (credenceref1_NatMul.l1 k y0 y1 y2 y3 y4 y5) (credenceref1_NatMul.l1 (k + 1) y0 y1 y2 y3 y4 y5))
 | 0 => ⟨fun _ _ _ _ r h => by simp [credenceref1_NatMul.l0] at h, fun _ _ _ _ _ _ r h => by simp [credenceref1_NatMul.l1] at h⟩
 | k + 1 => by
  obtain ⟨ih0, ih1⟩ := credenceref1_NatMul.mono_l k
  refine ⟨?_, ?_⟩
  ·
   intro y0 y1 y2 y3
   unfold credenceref1_NatMul.l0
   repeat' first
   | (with_reducible exact ih0 _ _ _ _)
   | (with_reducible exact ih1 _ _ _ _ _ _)
   | (with_reducible exact credenceref1_NatNorm.mono _ _)
   | (with_reducible exact LeO.refl _)
   | (with_reducible exact LeO.none _)
   | (with_reducible refine LeO.ite ?_ ?_)
   | (with_reducible refine LeO.bind ?_ (fun _ => ?_))
   | exact ih0 _ _ _ _
   | exact ih1 _ _ _ _ _ _
   | exact credenceref1_NatNorm.mono _ _
   | exact LeO.none _
   | refine LeO.ite ?_ ?_
   | refine LeO.bind ?_ (fun _ => ?_)
  ·
   intro y0 y1 y2 y3 y4 y5
   unfold credenceref1_NatMul.l1
   repeat' first
   | (with_reducible exact ih0 _ _ _ _)
   | (with_reducible exact ih1 _ _ _ _ _ _)
   | (with_reducible exact credenceref1_NatNorm.mono _ _)
   | (with_reducible exact LeO.refl _)
   | (with_reducible exact LeO.none _)
   | (with_reducible refine LeO.ite ?_ ?_)
   | (with_reducible refine LeO.bind ?_ (fun _ => ?_))
   | exact ih0 _ _ _ _
   | exact ih1 _ _ _ _ _ _
   | exact credenceref1_NatNorm.mono _ _
   | exact LeO.none _
   | refine LeO.ite ?_ ?_
   | refine LeO.bind ?_ (fun _ => ?_)
theorem credenceref1_NatMul.mono : ∀ a0 a1 k, LeO (credenceref1_NatMul.f k a0 a1) (credenceref1_NatMul.f (k + 1) a0 a1) := by
 intro a0 a1 k
 obtain ⟨ih0, ih1⟩ := credenceref1_NatMul.mono_l k
 unfold credenceref1_NatMul.f
 repeat' first
   | (with_reducible exact ih0 _ _ _ _)
   | (with_reducible exact ih1 _ _ _ _ _ _)
   | (with_reducible exact credenceref1_NatNorm.mono _ _)
   | (with_reducible exact LeO.refl _)
   | (with_reducible exact LeO.none _)
   | (with_reducible refine LeO.ite ?_ ?_)
   | (with_reducible refine LeO.bind ?_ (fun _ => ?_))
   | exact ih0 _ _ _ _
   | exact ih1 _ _ _ _ _ _
   | exact credenceref1_NatNorm.mono _ _
   | exact LeO.none _
   | refine LeO.ite ?_ ?_
   | refine LeO.bind ?_ (fun _ => ?_)
set_option maxHeartbeats 8000000 in
set_option maxRecDepth 100000 in
theorem credenceref1_NatMul.calls (k : Nat) (A0 : Option Addr) (c0 : Nat) (l0 : List Int) (A1 : Option Addr) (c1 : Nat) (l1 : List Int) (r : List Int) (w : World) (hr0 : Kd.C (Kd.int .u32) w A0 l0.length l0) (hc0 : l0.length ≤ c0) (hr1 : Kd.C (Kd.int .u32) w A1 l1.length l1) (hc1 : l1.length ≤ c1) (h : credenceref1_NatMul.f k l0 l1 = some r) :
  Calls Try.prog 39 #[.slice A0 l0.length c0, .slice A1 l1.length c1] w fun e w' => ∃ v0_ : Value, e = .returned (v0_) ∧ Kd.R (Kd.int .u32) 43 w' w.heap.size (fun _ => True) v0_ r ∧ Below w.heap.size w w' := by
 have HR0 := Aside0.mk hr0
 have HC0 := Aside0.mk hc0
 clear hr0 hc0
 have HR1 := Aside0.mk hr1
 have HC1 := Aside0.mk hc1
 clear hr1 hc1
 have HB := Aside0.mk (Below.refl w.heap.size w)
 have H : (if 0 ≤ (wrap64 ((l0.length : Int) + (l1.length : Int))) then (if (wrap64 ((l0.length : Int) + (l1.length : Int)) : Int).toNat ≤ 70368744177664 then (credenceref1_NatMul.l0 k l0 l1 (List.replicate (wrap64 ((l0.length : Int) + (l1.length : Int)) : Int).toNat 0) 0) else (none)) else (none)) = some r := h
 clear h
 obtain ⟨ji3, hji3⟩ : ∃ j_ : Int, (wrap64 ((l0.length : Int) + (l1.length : Int))) = j_ := ⟨_, rfl⟩
 replace H : (if 0 ≤ (ji3) then (if (ji3 : Int).toNat ≤ 70368744177664 then (credenceref1_NatMul.l0 k l0 l1 (List.replicate (ji3 : Int).toNat 0) 0) else (none)) else (none)) = some r := by first | (rw [hji3] at H; exact H) | (simp only [hji3] at H ⊢; exact H)
 have hji3w : (IntKind.i64.wrap ((l0.length : Int) + (l1.length : Int))) = ji3 := (i64_w _).trans hji3
 by_cases c4 : 0 ≤ (ji3)
 ·
  rw [if_pos c4] at H
  have c4b0 := eq_true c4
  have c4b1 : decide (0 ≤ (ji3)) = true := decide_eq_true c4
  clear c4
  by_cases c5 : (ji3 : Int).toNat ≤ 70368744177664
  ·
   rw [if_pos c5] at H
   have c5b0 := eq_true c5
   have c5b1 : decide ((ji3 : Int).toNat ≤ 70368744177664) = true := decide_eq_true c5
   clear c5
   obtain ⟨y204, hy204⟩ : ∃ y_ : List Int, y_ = (List.replicate (ji3 : Int).toNat 0) := ⟨_, rfl⟩
   replace H : (credenceref1_NatMul.l0 k l0 l1 y204 0) = some r := by first | (rw [hy204]; with_reducible exact H) | (have H2_ := (Option.bind_some _ _).symm.trans H; rw [hy204]; with_reducible exact H2_) | (have H2_ := (Option.bind_some _ _).symm.trans H; with_reducible exact H2_) | with_reducible exact H | (rw [hy204]; exact H) | exact H
   have Ny204 := Aside0.mk hy204
   clear hy204
   have H' := Aside0.mk H
   clear H
   go_enter Try.func39, Try.ntmps39
   go_wp2_with (first | ((with_reducible refine gate_dst (N := 14) rfl ?_); refine Kd.R_make (Kd.int .u32) _ 43 rfl (N := 14) rfl 23 _ _ rfl ji3 rfl rfl Try.underlying23 (.int .u32 0) 4 info43 rfl (by decide) (by omega) 0 (ok := fun _ => True) (okp := fun _ => True) rfl (fun _ hk => hk) trivial (of_decide_eq_true (by first | (with_reducible assumption) | assumption)) (Nat.le_trans (Nat.mul_le_mul_right _ (of_decide_eq_true (by first | (with_reducible assumption) | assumption) : ji3.toNat ≤ 70368744177664)) (by omega)) (Below.refl _ _) (Nat.le_refl _) ?_; intro v205 w6 ho7 hb hg_ hnew_; clear hg_ hnew_; (first | rw [← Ny204.out] at ho7 | (simp only [Int.reduceToNat] at ho7; rw [← Ny204.out] at ho7)); have n0_ := Aside0.mk (Kd.R_lower ho7 (below_size (zb HB rfl))); have n1_ := Aside0.mk (below_step (zb HB rfl) hb); clear HB; have HO206 := n0_; have HB := n1_; clear n0_ n1_; clear hb ho7))
   repeat (go_quiet (first | ((with_reducible refine gate_dst (N := 14) rfl ?_); refine Kd.R_make (Kd.int .u32) _ 43 rfl (N := 14) rfl 23 _ _ rfl ji3 rfl rfl Try.underlying23 (.int .u32 0) 4 info43 rfl (by decide) (by omega) 0 (ok := fun _ => True) (okp := fun _ => True) rfl (fun _ hk => hk) trivial (of_decide_eq_true (by first | (with_reducible assumption) | assumption)) (Nat.le_trans (Nat.mul_le_mul_right _ (of_decide_eq_true (by first | (with_reducible assumption) | assumption) : ji3.toNat ≤ 70368744177664)) (by omega)) (Below.refl _ _) (Nat.le_refl _) ?_; intro v205 w6 ho7 hb hg_ hnew_; clear hg_ hnew_; (first | rw [← Ny204.out] at ho7 | (simp only [Int.reduceToNat] at ho7; rw [← Ny204.out] at ho7)); have n0_ := Aside0.mk (Kd.R_lower ho7 (below_size (zb HB rfl))); have n1_ := Aside0.mk (below_step (zb HB rfl) hb); clear HB; have HO206 := n0_; have HB := n1_; clear n0_ n1_; clear hb ho7)); try go_wp2_with (first | ((with_reducible refine gate_dst (N := 14) rfl ?_); refine Kd.R_make (Kd.int .u32) _ 43 rfl (N := 14) rfl 23 _ _ rfl ji3 rfl rfl Try.underlying23 (.int .u32 0) 4 info43 rfl (by decide) (by omega) 0 (ok := fun _ => True) (okp := fun _ => True) rfl (fun _ hk => hk) trivial (of_decide_eq_true (by first | (with_reducible assumption) | assumption)) (Nat.le_trans (Nat.mul_le_mul_right _ (of_decide_eq_true (by first | (with_reducible assumption) | assumption) : ji3.toNat ≤ 70368744177664)) (by omega)) (Below.refl _ _) (Nat.le_refl _) ?_; intro v205 w6 ho7 hb hg_ hnew_; clear hg_ hnew_; (first | rw [← Ny204.out] at ho7 | (simp only [Int.reduceToNat] at ho7; rw [← Ny204.out] at ho7)); have n0_ := Aside0.mk (Kd.R_lower ho7 (below_size (zb HB rfl))); have n1_ := Aside0.mk (below_step (zb HB rfl) hb); clear HB; have HO206 := n0_; have HB := n1_; clear n0_ n1_; clear hb ho7)))
   go_loopg [6] k (fun kq v6 w' => ∃ (x5_1 : List Int) (x6_1 : Int), v6 = .int .i64 x6_1 ∧ Aside0 (credenceref1_NatMul.l0 kq l0 l1 x5_1 x6_1 = some r) ∧ Aside0 (kq ≤ k) ∧ Aside0 (Kd.R (Kd.int .u32) 43 w' w.heap.size (fun _ => True) v205 x5_1) ∧ Aside0 (Below w.heap.size w w'))
   case atStart => exact ⟨(y204), (0), (by first | rfl | (simp [*]; done)), H', ⟨Nat.le_refl _⟩, ⟨by (with_reducible repeat (first | apply Kd.R_alloc | apply Kd.R_drewN | apply Kd.R_drew)); exact HO206.out⟩, ⟨by repeat (first | (with_reducible first | exact HB.out | apply below_alloc | apply pw_below_drewN | apply below_drew1) | exact HB.out)⟩⟩
   case round =>
    clear H'
    try clear c1
    try clear p2
    try clear c3
    try clear c4
    try clear c4b0
    try clear c4b1
    try clear c5
    try clear c5b0
    try clear c5b1
    try clear p6
    obtain ⟨x5_1, x6_1, rfl, HA, HK1, HO_5, HB⟩ := hrel
    cases gk with
    | zero => exact absurd HA.out (by simp [credenceref1_NatMul.l0])
    | succ k1 =>
     have H := HA.out
     clear HA
     simp only [credenceref1_NatMul.l0] at H
     by_cases c8 : x6_1 < (l0.length : Int)
     ·
      rw [if_pos c8] at H
      have c8b0 : decide (x6_1 < (l0.length : Int)) = true := decide_eq_true c8
      clear c8
      have H' := Aside0.mk H
      clear H
      go_wp2
      repeat (go_quiet (fail); try go_wp2)
      go_loopg [7, 8] k1 (fun kq v7 v8 w' => ∃ (x5_2 : List Int) (x7_2 : Int) (x8_2 : Int), v7 = .int .u64 x7_2 ∧ v8 = .int .i64 x8_2 ∧ Aside0 (credenceref1_NatMul.l1 kq l0 l1 x5_2 x6_1 x7_2 x8_2 = some r) ∧ Aside0 (kq ≤ k1) ∧ Aside0 (Kd.R (Kd.int .u32) 43 w' w.heap.size (fun _ => True) v205 x5_2) ∧ Aside0 (Below w.heap.size w w'))
      case atStart => exact ⟨(x5_1), (0), (0), (by first | rfl | (simp [*]; done)), (by first | rfl | (simp [*]; done)), H', ⟨Nat.le_refl _⟩, ⟨by (with_reducible repeat (first | apply Kd.R_alloc | apply Kd.R_drewN | apply Kd.R_drew)); exact HO_5.out⟩, ⟨by repeat (first | (with_reducible first | exact HB.out | apply below_alloc | apply pw_below_drewN | apply below_drew1) | exact HB.out)⟩⟩
      case round =>
       clear H'
       try clear c1
       try clear p2
       try clear c3
       try clear c4
       try clear c4b0
       try clear c4b1
       try clear c5
       try clear c5b0
       try clear c5b1
       try clear p6
       try clear c8
       try clear c8b0
       try clear p2
       try clear p6
       obtain ⟨x5_2, x7_2, x8_2, rfl, rfl, HA, HK2, HO_5, HB⟩ := hrel
       cases gk with
       | zero => exact absurd HA.out (by simp [credenceref1_NatMul.l1])
       | succ k2 =>
        have H := HA.out
        clear HA
        simp only [credenceref1_NatMul.l1] at H
        by_cases c9 : x8_2 < (l1.length : Int)
        ·
         rw [if_pos c9] at H
         have c9b0 : decide (x8_2 < (l1.length : Int)) = true := decide_eq_true c9
         clear c9
         obtain ⟨ji10, hji10⟩ : ∃ j_ : Int, (wrap64 (x6_1 + x8_2)) = j_ := ⟨_, rfl⟩
         replace H : (if 0 ≤ (ji10) then (if (ji10) < (x5_2.length : Int) then (if 0 ≤ x6_1 then (if x6_1 < (l0.length : Int) then (if 0 ≤ x8_2 then (credenceref1_NatMul.l1 k2 l0 l1 (x5_2.set ((ji10) : Int).toNat ((IntKind.u64.wrap ((IntKind.u64.wrap (x7_2 + (IntKind.u64.wrap (rd x5_2 (ji10))))) + (IntKind.u64.wrap ((IntKind.u64.wrap (rd l0 x6_1)) * (IntKind.u64.wrap (rd l1 x8_2)))))) % 4294967296)) x6_1 ((IntKind.u64.wrap ((IntKind.u64.wrap (x7_2 + (IntKind.u64.wrap (rd x5_2 (ji10))))) + (IntKind.u64.wrap ((IntKind.u64.wrap (rd l0 x6_1)) * (IntKind.u64.wrap (rd l1 x8_2)))))) / 4294967296) (wrap64 (x8_2 + 1))) else (none)) else (none)) else (none)) else (none)) else (none)) = some r := by first | (rw [hji10] at H; exact H) | (simp only [hji10] at H ⊢; exact H)
         have hji10w : (IntKind.i64.wrap (x6_1 + x8_2)) = ji10 := (i64_w _).trans hji10
         (try (have hji10r := hji10; simp only [hji3] at hji10r))
         (try (have hji10wr := hji10w; simp only [hji3] at hji10wr))
         by_cases c11 : 0 ≤ (ji10)
         ·
          rw [if_pos c11] at H
          have c11b0 : decide (0 ≤ (ji10)) = true := decide_eq_true c11
          clear c11
          by_cases c12 : (ji10) < (x5_2.length : Int)
          ·
           rw [if_pos c12] at H
           have c12b0 : decide ((ji10) < (x5_2.length : Int)) = true := decide_eq_true c12
           clear c12
           by_cases c13 : 0 ≤ x6_1
           ·
            rw [if_pos c13] at H
            have c13b0 : decide (0 ≤ x6_1) = true := decide_eq_true c13
            clear c13
            by_cases c14 : x6_1 < (l0.length : Int)
            ·
             rw [if_pos c14] at H
             have c14b0 : decide (x6_1 < (l0.length : Int)) = true := decide_eq_true c14
             clear c14
             by_cases c15 : 0 ≤ x8_2
             ·
              rw [if_pos c15] at H
              have c15b0 : decide (0 ≤ x8_2) = true := decide_eq_true c15
              clear c15
              obtain ⟨y213, hy213⟩ : ∃ y_ : List Int, y_ = (x5_2.set ((ji10) : Int).toNat ((IntKind.u64.wrap ((IntKind.u64.wrap (x7_2 + (IntKind.u64.wrap (rd x5_2 (ji10))))) + (IntKind.u64.wrap ((IntKind.u64.wrap (rd l0 x6_1)) * (IntKind.u64.wrap (rd l1 x8_2)))))) % 4294967296)) := ⟨_, rfl⟩
              replace H : (credenceref1_NatMul.l1 k2 l0 l1 y213 x6_1 ((IntKind.u64.wrap ((IntKind.u64.wrap (x7_2 + (IntKind.u64.wrap (rd x5_2 (ji10))))) + (IntKind.u64.wrap ((IntKind.u64.wrap (rd l0 x6_1)) * (IntKind.u64.wrap (rd l1 x8_2)))))) / 4294967296) (wrap64 (x8_2 + 1))) = some r := by first | (rw [hy213]; with_reducible exact H) | (have H2_ := (Option.bind_some _ _).symm.trans H; rw [hy213]; with_reducible exact H2_) | (have H2_ := (Option.bind_some _ _).symm.trans H; with_reducible exact H2_) | with_reducible exact H | (rw [hy213]; exact H) | exact H
              have Ny213 := Aside0.mk hy213
              clear hy213
              have H' := Aside0.mk H
              clear H
              obtain ⟨Ao17, co17, eo17⟩ := Kd.R_slice HO_5.out
              subst eo17
              have p210 : 0 ≤ ((ji10) : Int) := of_decide_eq_true (by first | (with_reducible assumption) | assumption)
              have q210 : (ji10) < (x5_2.length : Int) := of_decide_eq_true (by first | (with_reducible assumption) | assumption)
              obtain ⟨ad210, e210, hx210_0⟩ := Kd.at_int (Kd.R_reads' HO_5.out).2.2 (ji10) p210 q210
              cases e210
              replace p210 := eq_true p210
              replace q210 := eq_true q210
              have p211 : 0 ≤ (x6_1 : Int) := of_decide_eq_true (by first | (with_reducible assumption) | assumption)
              have q211 : x6_1 < (l0.length : Int) := of_decide_eq_true (by first | (with_reducible assumption) | assumption)
              obtain ⟨ad211, e211, hx211_0⟩ := Kd.at_int HR0.out x6_1 p211 q211
              cases e211
              replace hx211_0 := (HB.out.cell (World.block_lt_of_cell? w _ hx211_0)).trans hx211_0
              replace p211 := eq_true p211
              replace q211 := eq_true q211
              have p212 : 0 ≤ (x8_2 : Int) := of_decide_eq_true (by first | (with_reducible assumption) | assumption)
              have q212 : x8_2 < (l1.length : Int) := of_decide_eq_true (by first | (with_reducible assumption) | assumption)
              obtain ⟨ad212, e212, hx212_0⟩ := Kd.at_int HR1.out x8_2 p212 q212
              cases e212
              replace hx212_0 := (HB.out.cell (World.block_lt_of_cell? w _ hx212_0)).trans hx212_0
              replace p212 := eq_true p212
              replace q212 := eq_true q212
              have p16 : 0 ≤ ((ji10) : Int) := of_decide_eq_true (by first | (with_reducible assumption) | assumption)
              have q16 : ((ji10) : Int) < ((x5_2.length : Int) : Int) := of_decide_eq_true (by first | (with_reducible assumption) | assumption)
              obtain ⟨go16, co16, eo16, gb16, gl16, cl16, HG16⟩ := Kd.R_form HO_5.out (by omega)
              (first | cases eo16 | (injection eo16 with ea_ en_ ec_; (first | subst ea_ | (injection ea_ with ea_; subst ea_)); subst ec_; clear en_))
              have GB16 := Aside0.mk gb16
              have GG16 := Aside0.mk HG16
              clear gb16 gl16 HG16
              (first | simp only [add_plain] at hx210_0 | skip)
              obtain ⟨hx16_0, hf16_0⟩ := Kd.R_celln 0 HO_5.out ((ji10) : Int) p16 q16
              replace p16 := eq_true p16
              replace q16 := eq_true q16
              obtain ⟨hy18_, hz18_⟩ := Kd.R_celln 0 HO_5.out ((ji10) : Int) (of_decide_eq_true (by first | (with_reducible assumption) | assumption)) (of_decide_eq_true (by first | (with_reducible assumption) | assumption))
              have HP18 := Kd.R_putg HO_5.out ((ji10) : Int) ((IntKind.u64.wrap ((IntKind.u64.wrap (x7_2 + (IntKind.u64.wrap (rd x5_2 (ji10))))) + (IntKind.u64.wrap ((IntKind.u64.wrap (rd l0 x6_1)) * (IntKind.u64.wrap (rd l1 x8_2)))))) % 4294967296)
              go_wp2_with (first | ((with_reducible refine gate_store (t := 43) (p := 54) rfl ?_); (try (rw [drewN_self wr]; generalize hq_ : World.drewN wr _ = wr; have n0_ := Aside0.mk (Kd.R_at hq_ HO_5.out); have n1_ := Aside0.mk (below_at hq_ HB.out); clear hq_ HO_5 HB; have HO_5 := n0_; have HB := n1_; clear n0_ n1_; (try (obtain ⟨hy18_, hz18_⟩ := Kd.R_celln 0 HO_5.out ((ji10) : Int) (of_decide_eq_true (by first | (with_reducible assumption) | assumption)) (of_decide_eq_true (by first | (with_reducible assumption) | assumption)))); (try (have HP18 := Kd.R_putg HO_5.out ((ji10) : Int) ((IntKind.u64.wrap ((IntKind.u64.wrap (x7_2 + (IntKind.u64.wrap (rd x5_2 (ji10))))) + (IntKind.u64.wrap ((IntKind.u64.wrap (rd l0 x6_1)) * (IntKind.u64.wrap (rd l1 x8_2)))))) % 4294967296))))); refine store_event (t := 43) (p := 54) (v := ?vo_w19) (w1 := (wr.setCell ⟨go16, ((ji10) : Int).toNat, none⟩ (.int .u32 ((IntKind.u64.wrap ((IntKind.u64.wrap (x7_2 + (IntKind.u64.wrap (rd x5_2 (ji10))))) + (IntKind.u64.wrap ((IntKind.u64.wrap (rd l0 x6_1)) * (IntKind.u64.wrap (rd l1 x8_2)))))) % 4294967296)))) ?hg ?ho ?hn ?hr ?_; (case ho => rfl); (case hg => rfl); (case hn => rfl); (case hr => first | (go_simp; done) | (go_simp; rfl)); intro w19 hw; have hg : wr.grownBy w19 (some go16) := (by rw [hw]; exact HP18.2); have hp_ : Kd.R (Kd.int .u32) 43 w19 w.heap.size (fun _ => True) (.slice (some ⟨go16, 0, none⟩) x5_2.length co17) y213 := (by rw [hw, Ny213.out]; exact HP18.1); clear HP18; have n0_ := Aside0.mk (hp_); have n1_ := Aside0.mk ((by rw [hw]; exact below_set (HB.out) GB16.out : Below w.heap.size w w19)); clear HO_5; clear HB; have HO_5 := n0_; have HB := n1_; clear n0_ n1_; clear hg hw hp_))
              repeat (go_quiet (first | ((with_reducible refine gate_store (t := 43) (p := 54) rfl ?_); (try (rw [drewN_self wr]; generalize hq_ : World.drewN wr _ = wr; have n0_ := Aside0.mk (Kd.R_at hq_ HO_5.out); have n1_ := Aside0.mk (below_at hq_ HB.out); clear hq_ HO_5 HB; have HO_5 := n0_; have HB := n1_; clear n0_ n1_; (try (obtain ⟨hy18_, hz18_⟩ := Kd.R_celln 0 HO_5.out ((ji10) : Int) (of_decide_eq_true (by first | (with_reducible assumption) | assumption)) (of_decide_eq_true (by first | (with_reducible assumption) | assumption)))); (try (have HP18 := Kd.R_putg HO_5.out ((ji10) : Int) ((IntKind.u64.wrap ((IntKind.u64.wrap (x7_2 + (IntKind.u64.wrap (rd x5_2 (ji10))))) + (IntKind.u64.wrap ((IntKind.u64.wrap (rd l0 x6_1)) * (IntKind.u64.wrap (rd l1 x8_2)))))) % 4294967296))))); refine store_event (t := 43) (p := 54) (v := ?vo_w19) (w1 := (wr.setCell ⟨go16, ((ji10) : Int).toNat, none⟩ (.int .u32 ((IntKind.u64.wrap ((IntKind.u64.wrap (x7_2 + (IntKind.u64.wrap (rd x5_2 (ji10))))) + (IntKind.u64.wrap ((IntKind.u64.wrap (rd l0 x6_1)) * (IntKind.u64.wrap (rd l1 x8_2)))))) % 4294967296)))) ?hg ?ho ?hn ?hr ?_; (case ho => rfl); (case hg => rfl); (case hn => rfl); (case hr => first | (go_simp; done) | (go_simp; rfl)); intro w19 hw; have hg : wr.grownBy w19 (some go16) := (by rw [hw]; exact HP18.2); have hp_ : Kd.R (Kd.int .u32) 43 w19 w.heap.size (fun _ => True) (.slice (some ⟨go16, 0, none⟩) x5_2.length co17) y213 := (by rw [hw, Ny213.out]; exact HP18.1); clear HP18; have n0_ := Aside0.mk (hp_); have n1_ := Aside0.mk ((by rw [hw]; exact below_set (HB.out) GB16.out : Below w.heap.size w w19)); clear HO_5; clear HB; have HO_5 := n0_; have HB := n1_; clear n0_ n1_; clear hg hw hp_)); try go_wp2_with (first | ((with_reducible refine gate_store (t := 43) (p := 54) rfl ?_); (try (rw [drewN_self wr]; generalize hq_ : World.drewN wr _ = wr; have n0_ := Aside0.mk (Kd.R_at hq_ HO_5.out); have n1_ := Aside0.mk (below_at hq_ HB.out); clear hq_ HO_5 HB; have HO_5 := n0_; have HB := n1_; clear n0_ n1_; (try (obtain ⟨hy18_, hz18_⟩ := Kd.R_celln 0 HO_5.out ((ji10) : Int) (of_decide_eq_true (by first | (with_reducible assumption) | assumption)) (of_decide_eq_true (by first | (with_reducible assumption) | assumption)))); (try (have HP18 := Kd.R_putg HO_5.out ((ji10) : Int) ((IntKind.u64.wrap ((IntKind.u64.wrap (x7_2 + (IntKind.u64.wrap (rd x5_2 (ji10))))) + (IntKind.u64.wrap ((IntKind.u64.wrap (rd l0 x6_1)) * (IntKind.u64.wrap (rd l1 x8_2)))))) % 4294967296))))); refine store_event (t := 43) (p := 54) (v := ?vo_w19) (w1 := (wr.setCell ⟨go16, ((ji10) : Int).toNat, none⟩ (.int .u32 ((IntKind.u64.wrap ((IntKind.u64.wrap (x7_2 + (IntKind.u64.wrap (rd x5_2 (ji10))))) + (IntKind.u64.wrap ((IntKind.u64.wrap (rd l0 x6_1)) * (IntKind.u64.wrap (rd l1 x8_2)))))) % 4294967296)))) ?hg ?ho ?hn ?hr ?_; (case ho => rfl); (case hg => rfl); (case hn => rfl); (case hr => first | (go_simp; done) | (go_simp; rfl)); intro w19 hw; have hg : wr.grownBy w19 (some go16) := (by rw [hw]; exact HP18.2); have hp_ : Kd.R (Kd.int .u32) 43 w19 w.heap.size (fun _ => True) (.slice (some ⟨go16, 0, none⟩) x5_2.length co17) y213 := (by rw [hw, Ny213.out]; exact HP18.1); clear HP18; have n0_ := Aside0.mk (hp_); have n1_ := Aside0.mk ((by rw [hw]; exact below_set (HB.out) GB16.out : Below w.heap.size w w19)); clear HO_5; clear HB; have HO_5 := n0_; have HB := n1_; clear n0_ n1_; clear hg hw hp_)))
              go_roundg k2
              case measure => have := HK1.out; have := HK2.out; omega
              case rel => exact ⟨(y213), ((IntKind.u64.wrap ((IntKind.u64.wrap (x7_2 + (IntKind.u64.wrap (rd x5_2 (ji10))))) + (IntKind.u64.wrap ((IntKind.u64.wrap (rd l0 x6_1)) * (IntKind.u64.wrap (rd l1 x8_2)))))) / 4294967296), (wrap64 (x8_2 + 1)), (by first | rfl | (simp; done) | (simp only [← hji10] <;> (first | rfl | simp)) | (simp [*]; done)), (by first | rfl | (simp [*]; done)), H', ⟨by have := HK1.out; have := HK2.out; omega⟩, ⟨by (with_reducible repeat (first | apply Kd.R_alloc | apply Kd.R_drewN | apply Kd.R_drew)); exact HO_5.out⟩, ⟨by repeat (first | (with_reducible first | exact HB.out | apply below_alloc | apply pw_below_drewN | apply below_drew1) | exact HB.out)⟩⟩
             ·
              rw [if_neg c15] at H
              exact absurd H (by simp)
            ·
             rw [if_neg c14] at H
             exact absurd H (by simp)
           ·
            rw [if_neg c13] at H
            exact absurd H (by simp)
          ·
           rw [if_neg c12] at H
           exact absurd H (by simp)
         ·
          rw [if_neg c11] at H
          exact absurd H (by simp)
        ·
         rw [if_neg c9] at H
         have c9b0 : decide (x8_2 < (l1.length : Int)) = false := decide_eq_false c9
         clear c9
         obtain ⟨ji20, hji20⟩ : ∃ j_ : Int, (wrap64 (x6_1 + (l1.length : Int))) = j_ := ⟨_, rfl⟩
         replace H : (if 0 ≤ (ji20) then (if (ji20) < (x5_2.length : Int) then (credenceref1_NatMul.l0 k2 l0 l1 (x5_2.set ((ji20) : Int).toNat ((x7_2) % 4294967296)) (wrap64 (x6_1 + 1))) else (none)) else (none)) = some r := by first | (rw [hji20] at H; exact H) | (simp only [hji20] at H ⊢; exact H)
         have hji20w : (IntKind.i64.wrap (x6_1 + (l1.length : Int))) = ji20 := (i64_w _).trans hji20
         (try (have hji20r := hji20; simp only [hji3, hji10] at hji20r))
         (try (have hji20wr := hji20w; simp only [hji3, hji10] at hji20wr))
         by_cases c21 : 0 ≤ (ji20)
         ·
          rw [if_pos c21] at H
          have c21b0 : decide (0 ≤ (ji20)) = true := decide_eq_true c21
          clear c21
          by_cases c22 : (ji20) < (x5_2.length : Int)
          ·
           rw [if_pos c22] at H
           have c22b0 : decide ((ji20) < (x5_2.length : Int)) = true := decide_eq_true c22
           clear c22
           obtain ⟨y214, hy214⟩ : ∃ y_ : List Int, y_ = (x5_2.set ((ji20) : Int).toNat ((x7_2) % 4294967296)) := ⟨_, rfl⟩
           replace H : (credenceref1_NatMul.l0 k2 l0 l1 y214 (wrap64 (x6_1 + 1))) = some r := by first | (rw [hy214]; with_reducible exact H) | (have H2_ := (Option.bind_some _ _).symm.trans H; rw [hy214]; with_reducible exact H2_) | (have H2_ := (Option.bind_some _ _).symm.trans H; with_reducible exact H2_) | with_reducible exact H | (rw [hy214]; exact H) | exact H
           have Ny214 := Aside0.mk hy214
           clear hy214
           have H' := Aside0.mk H
           clear H
           have p23 : 0 ≤ ((ji20) : Int) := of_decide_eq_true (by first | (with_reducible assumption) | assumption)
           have q23 : ((ji20) : Int) < ((x5_2.length : Int) : Int) := of_decide_eq_true (by first | (with_reducible assumption) | assumption)
           obtain ⟨go23, co23, eo23, gb23, gl23, cl23, HG23⟩ := Kd.R_form HO_5.out (by omega)
           (first | cases eo23 | (injection eo23 with ea_ en_ ec_; (first | subst ea_ | (injection ea_ with ea_; subst ea_)); subst ec_; clear en_))
           have GB23 := Aside0.mk gb23
           have GG23 := Aside0.mk HG23
           clear gb23 gl23 HG23
           obtain ⟨hx23_0, hf23_0⟩ := Kd.R_celln 0 HO_5.out ((ji20) : Int) p23 q23
           replace p23 := eq_true p23
           replace q23 := eq_true q23
           obtain ⟨hy24_, hz24_⟩ := Kd.R_celln 0 HO_5.out ((ji20) : Int) (of_decide_eq_true (by first | (with_reducible assumption) | assumption)) (of_decide_eq_true (by first | (with_reducible assumption) | assumption))
           have HP24 := Kd.R_putg HO_5.out ((ji20) : Int) ((x7_2) % 4294967296)
           go_wp2_with (first | ((with_reducible refine gate_store (t := 43) (p := 64) rfl ?_); (try (rw [drewN_self wr]; generalize hq_ : World.drewN wr _ = wr; have n0_ := Aside0.mk (Kd.R_at hq_ HO_5.out); have n1_ := Aside0.mk (below_at hq_ HB.out); clear hq_ HO_5 HB; have HO_5 := n0_; have HB := n1_; clear n0_ n1_; (try (obtain ⟨hy24_, hz24_⟩ := Kd.R_celln 0 HO_5.out ((ji20) : Int) (of_decide_eq_true (by first | (with_reducible assumption) | assumption)) (of_decide_eq_true (by first | (with_reducible assumption) | assumption)))); (try (have HP24 := Kd.R_putg HO_5.out ((ji20) : Int) ((x7_2) % 4294967296))))); refine store_event (t := 43) (p := 64) (v := ?vo_w25) (w1 := (wr.setCell ⟨go23, ((ji20) : Int).toNat, none⟩ (.int .u32 ((x7_2) % 4294967296)))) ?hg ?ho ?hn ?hr ?_; (case ho => rfl); (case hg => rfl); (case hn => rfl); (case hr => first | (go_simp; done) | (go_simp; rfl)); intro w25 hw; have hg : wr.grownBy w25 (some go23) := (by rw [hw]; exact HP24.2); have hp_ : Kd.R (Kd.int .u32) 43 w25 w.heap.size (fun _ => True) (.slice (some ⟨go23, 0, none⟩) x5_2.length co23) y214 := (by rw [hw, Ny214.out]; exact HP24.1); clear HP24; have n0_ := Aside0.mk (hp_); have n1_ := Aside0.mk ((by rw [hw]; exact below_set (HB.out) GB23.out : Below w.heap.size w w25)); clear HO_5; clear HB; have HO_5 := n0_; have HB := n1_; clear n0_ n1_; clear hg hw hp_))
           repeat (go_quiet (first | ((with_reducible refine gate_store (t := 43) (p := 64) rfl ?_); (try (rw [drewN_self wr]; generalize hq_ : World.drewN wr _ = wr; have n0_ := Aside0.mk (Kd.R_at hq_ HO_5.out); have n1_ := Aside0.mk (below_at hq_ HB.out); clear hq_ HO_5 HB; have HO_5 := n0_; have HB := n1_; clear n0_ n1_; (try (obtain ⟨hy24_, hz24_⟩ := Kd.R_celln 0 HO_5.out ((ji20) : Int) (of_decide_eq_true (by first | (with_reducible assumption) | assumption)) (of_decide_eq_true (by first | (with_reducible assumption) | assumption)))); (try (have HP24 := Kd.R_putg HO_5.out ((ji20) : Int) ((x7_2) % 4294967296))))); refine store_event (t := 43) (p := 64) (v := ?vo_w25) (w1 := (wr.setCell ⟨go23, ((ji20) : Int).toNat, none⟩ (.int .u32 ((x7_2) % 4294967296)))) ?hg ?ho ?hn ?hr ?_; (case ho => rfl); (case hg => rfl); (case hn => rfl); (case hr => first | (go_simp; done) | (go_simp; rfl)); intro w25 hw; have hg : wr.grownBy w25 (some go23) := (by rw [hw]; exact HP24.2); have hp_ : Kd.R (Kd.int .u32) 43 w25 w.heap.size (fun _ => True) (.slice (some ⟨go23, 0, none⟩) x5_2.length co23) y214 := (by rw [hw, Ny214.out]; exact HP24.1); clear HP24; have n0_ := Aside0.mk (hp_); have n1_ := Aside0.mk ((by rw [hw]; exact below_set (HB.out) GB23.out : Below w.heap.size w w25)); clear HO_5; clear HB; have HO_5 := n0_; have HB := n1_; clear n0_ n1_; clear hg hw hp_)); try go_wp2_with (first | ((with_reducible refine gate_store (t := 43) (p := 64) rfl ?_); (try (rw [drewN_self wr]; generalize hq_ : World.drewN wr _ = wr; have n0_ := Aside0.mk (Kd.R_at hq_ HO_5.out); have n1_ := Aside0.mk (below_at hq_ HB.out); clear hq_ HO_5 HB; have HO_5 := n0_; have HB := n1_; clear n0_ n1_; (try (obtain ⟨hy24_, hz24_⟩ := Kd.R_celln 0 HO_5.out ((ji20) : Int) (of_decide_eq_true (by first | (with_reducible assumption) | assumption)) (of_decide_eq_true (by first | (with_reducible assumption) | assumption)))); (try (have HP24 := Kd.R_putg HO_5.out ((ji20) : Int) ((x7_2) % 4294967296))))); refine store_event (t := 43) (p := 64) (v := ?vo_w25) (w1 := (wr.setCell ⟨go23, ((ji20) : Int).toNat, none⟩ (.int .u32 ((x7_2) % 4294967296)))) ?hg ?ho ?hn ?hr ?_; (case ho => rfl); (case hg => rfl); (case hn => rfl); (case hr => first | (go_simp; done) | (go_simp; rfl)); intro w25 hw; have hg : wr.grownBy w25 (some go23) := (by rw [hw]; exact HP24.2); have hp_ : Kd.R (Kd.int .u32) 43 w25 w.heap.size (fun _ => True) (.slice (some ⟨go23, 0, none⟩) x5_2.length co23) y214 := (by rw [hw, Ny214.out]; exact HP24.1); clear HP24; have n0_ := Aside0.mk (hp_); have n1_ := Aside0.mk ((by rw [hw]; exact below_set (HB.out) GB23.out : Below w.heap.size w w25)); clear HO_5; clear HB; have HO_5 := n0_; have HB := n1_; clear n0_ n1_; clear hg hw hp_)))
           go_roundg k2
           case measure => have := HK1.out; have := HK2.out; omega
           case rel => exact ⟨(y214), (wrap64 (x6_1 + 1)), (by first | rfl | (simp [*]; done)), H', ⟨by have := HK1.out; have := HK2.out; omega⟩, ⟨by (with_reducible repeat (first | apply Kd.R_alloc | apply Kd.R_drewN | apply Kd.R_drew)); exact HO_5.out⟩, ⟨by repeat (first | (with_reducible first | exact HB.out | apply below_alloc | apply pw_below_drewN | apply below_drew1) | exact HB.out)⟩⟩
          ·
           rw [if_neg c22] at H
           exact absurd H (by simp)
         ·
          rw [if_neg c21] at H
          exact absurd H (by simp)
     ·
      rw [if_neg c8] at H
      have c8b0 : decide (x6_1 < (l0.length : Int)) = false := decide_eq_false c8
      clear c8
      replace H := Option.bind_eq_some_iff.mp H
      obtain ⟨t207, A260, H⟩ := H
      replace H : (some t207) = some r := H
      have A26 := Aside0.mk A260
      clear A260
      obtain rfl := Option.some.inj H
      obtain ⟨Ao27, co27, eo27⟩ := Kd.R_slice HO_5.out
      subst eo27
      go_wp2_with (first | (go_at_call 35; (with_reducible refine (credenceref1_NatNorm.calls k1 _ _ x5_1 t207 _ ?side1 ?side2 A26.out).mono ?_); (case side1 => repeat first | exact (Kd.R_reads' HO_5.out).2.2 | refine Kd.C_drewN ?_ _ | refine Kd.C_alloc ?_ _ | refine Kd.C_drew ?_); (case side2 => exact (Kd.R_reads' HO_5.out).2.1); rintro e w28 ⟨v208, rfl, ho0, hb⟩; have n0_ := Aside0.mk (Kd.R_elder' (zr HO_5 rfl) (Kd.R_base ho0) hb); have n1_ := Aside0.mk (Kd.R_lower (Kd.R_new' ho0 (Kd.R_lt (zr HO_5 rfl))) (below_size (zb HB rfl))); have n2_ := Aside0.mk (below_step (zb HB rfl) hb); clear HO_5; clear HB; have HO_5 := n0_; have HO209 := n1_; have HB := n2_; clear n0_ n1_ n2_))
      repeat (go_quiet (first | (go_at_call 35; (with_reducible refine (credenceref1_NatNorm.calls k1 _ _ x5_1 t207 _ ?side1 ?side2 A26.out).mono ?_); (case side1 => repeat first | exact (Kd.R_reads' HO_5.out).2.2 | refine Kd.C_drewN ?_ _ | refine Kd.C_alloc ?_ _ | refine Kd.C_drew ?_); (case side2 => exact (Kd.R_reads' HO_5.out).2.1); rintro e w28 ⟨v208, rfl, ho0, hb⟩; have n0_ := Aside0.mk (Kd.R_elder' (zr HO_5 rfl) (Kd.R_base ho0) hb); have n1_ := Aside0.mk (Kd.R_lower (Kd.R_new' ho0 (Kd.R_lt (zr HO_5 rfl))) (below_size (zb HB rfl))); have n2_ := Aside0.mk (below_step (zb HB rfl) hb); clear HO_5; clear HB; have HO_5 := n0_; have HO209 := n1_; have HB := n2_; clear n0_ n1_ n2_)); try go_wp2_with (first | (go_at_call 35; (with_reducible refine (credenceref1_NatNorm.calls k1 _ _ x5_1 t207 _ ?side1 ?side2 A26.out).mono ?_); (case side1 => repeat first | exact (Kd.R_reads' HO_5.out).2.2 | refine Kd.C_drewN ?_ _ | refine Kd.C_alloc ?_ _ | refine Kd.C_drew ?_); (case side2 => exact (Kd.R_reads' HO_5.out).2.1); rintro e w28 ⟨v208, rfl, ho0, hb⟩; have n0_ := Aside0.mk (Kd.R_elder' (zr HO_5 rfl) (Kd.R_base ho0) hb); have n1_ := Aside0.mk (Kd.R_lower (Kd.R_new' ho0 (Kd.R_lt (zr HO_5 rfl))) (below_size (zb HB rfl))); have n2_ := Aside0.mk (below_step (zb HB rfl) hb); clear HO_5; clear HB; have HO_5 := n0_; have HO209 := n1_; have HB := n2_; clear n0_ n1_ n2_)))
      go_ret
      exact ⟨_, by first | rfl | (simp [errW_none, errW_some] <;> rfl) | (simp only [← hji3]; first | rfl | (simp [errW_none, errW_some] <;> rfl)) | (simp [*, errW_none, errW_some] <;> rfl), by (with_reducible repeat (first | apply Kd.R_alloc | apply Kd.R_drewN | apply Kd.R_drew)); exact Kd.R_mono HO209.out (fun _ hk => trivial), by repeat (first | (with_reducible first | exact HB.out | apply below_alloc | apply pw_below_drewN | apply below_drew1) | exact HB.out)⟩
  ·
   rw [if_neg c5] at H
   exact absurd H (by simp)
 ·
  rw [if_neg c4] at H
  exact absurd H (by simp)

end Go.Proofs.Ytjiaplnpgjicgaa.Q

