/- Lemmas for the proof of one law of this seat (Qx6). -/
import Derived.Test.YtjiaplnpgjicgaaZBignatArithQx0
import Derived.Test.YtjiaplnpgjicgaaZBignatArithQx1
import Derived.Test.YtjiaplnpgjicgaaZBignatArithQx5
import Derived.Test.YtjiaplnpgjicgaaZBignatArithSq
namespace Go.Proofs.Ytjiaplnpgjicgaa.Q
open Go.RowKit Go.Proofs.YtjiaplnpgjicgaaW.PrintWords Go.Proofs.YtjiaplnpgjicgaaW.PrintLast Go.Proofs.YtjiaplnpgjicgaaW.PrintMore
attribute [local go_sem] max2_int min2_int max_two min_two max_three min_three max_four min_four   -- for this text's walks alone
set_option linter.unusedVariables false
set_option linter.unusedSimpArgs false

def credencelaw1_same.f (k : Nat) (l0 : List Int) (l1 : List Int) : Option (Bool) := (credenceref1_NatSame.f k l0 l1).bind fun t254 => (some t254)
theorem credencelaw1_same.mono : ∀ a0 a1 k, LeO (credencelaw1_same.f k a0 a1) (credencelaw1_same.f (k + 1) a0 a1) := by
 intro a0 a1 k
 unfold credencelaw1_same.f
 repeat' first
   | (with_reducible exact credenceref1_NatSame.mono _ _ _)
   | (with_reducible exact LeO.refl _)
   | (with_reducible exact LeO.none _)
   | (with_reducible refine LeO.ite ?_ ?_)
   | (with_reducible refine LeO.bind ?_ (fun _ => ?_))
   | exact credenceref1_NatSame.mono _ _ _
   | exact LeO.none _
   | refine LeO.ite ?_ ?_
   | refine LeO.bind ?_ (fun _ => ?_)
set_option maxHeartbeats 8000000 in
set_option maxRecDepth 100000 in
theorem credencelaw1_same.calls (k : Nat) (A0 : Option Addr) (c0 : Nat) (l0 : List Int) (A1 : Option Addr) (c1 : Nat) (l1 : List Int) (r : Bool) (w : World) (hr0 : Kd.C (Kd.int .u32) w A0 l0.length l0) (hc0 : l0.length ≤ c0) (hr1 : Kd.C (Kd.int .u32) w A1 l1.length l1) (hc1 : l1.length ≤ c1) (h : credencelaw1_same.f k l0 l1 = some r) :
  Calls Try.prog 17 #[.slice A0 l0.length c0, .slice A1 l1.length c1] w fun e w' => e = .returned (.bool r) ∧ Drawn0 w w' := by
 have HR0 := Aside0.mk hr0
 have HC0 := Aside0.mk hc0
 clear hr0 hc0
 have HR1 := Aside0.mk hr1
 have HC1 := Aside0.mk hc1
 clear hr1 hc1
 have H : ((credenceref1_NatSame.f k l0 l1).bind fun t254 => (some t254)) = some r := h
 clear h
 replace H := Option.bind_eq_some_iff.mp H
 obtain ⟨t254, A30, H⟩ := H
 replace H : (some t254) = some r := H
 have A3 := Aside0.mk A30
 clear A30
 obtain rfl := Option.some.inj H
 go_enter Try.func17, Try.ntmps17
 go_wp2_with (first | ((with_reducible refine gate_callee (f := 46) rfl ?_); refine goesL_ (some 7) rfl rfl Try.func46 (by kernel_rfl) rfl #[.slice A0 l0.length c0, .slice A1 l1.length c1] rfl (by first | rfl | (go_simp; first | done | rfl | ((try simp only [IntKind.wrap_u8, IntKind.wrap_u32, IntKind.wrap_u64]); omega))) ?_; (with_reducible refine (credenceref1_NatSame.calls k _ _ l0 _ _ l1 t254 _ ?side1 ?side2 ?side3 ?side4 A3.out).mono ?_); (case side1 => repeat first | exact HR0.out | refine Kd.C_drewN ?_ _ | refine Kd.C_alloc ?_ _ | refine Kd.C_drew ?_); (case side2 => exact HC0.out); (case side3 => repeat first | exact HR1.out | refine Kd.C_drewN ?_ _ | refine Kd.C_alloc ?_ _ | refine Kd.C_drew ?_); (case side4 => exact HC1.out); rintro e w' ⟨rfl, ⟨nd, rfl⟩⟩; refine ⟨_, rfl, ?_⟩))
 go_ret
 exact ⟨by first | rfl | (simp [*]; done), by repeat (first | exact Drawn0.refl _ | apply Drawn0.step)⟩

mutual
def bignat_Add.j0 : Nat → List Int → List Int → Option (List Int)
 | 0, _, _ => none
 | k + 1, x0, x1 => if 0 ≤ (wrap64 ((x0.length : Int) + 1)) then (if (wrap64 ((x0.length : Int) + 1) : Int).toNat ≤ 70368744177664 then (bignat_Add.l0 k x0 x1 (List.replicate (wrap64 ((x0.length : Int) + 1) : Int).toNat 0) 0 (x0.length : Int) 0) else (none)) else (none)
def bignat_Add.l0 : Nat → List Int → List Int → List Int → Int → Int → Int → Option (List Int)
 | 0, _, _, _, _, _, _ => none
 | k + 1, x0, x1, x5, x6, x24, x25 => if x25 < x24 then (if 0 ≤ x25 then (if x25 < (x0.length : Int) then (if x25 < (x1.length : Int) then (if x25 < (x5.length : Int) then (bignat_Add.l0 k x0 x1 (x5.set (x25 : Int).toNat ((IntKind.u64.wrap ((IntKind.u64.wrap (x6 + (IntKind.u64.wrap (rd x0 x25)))) + (IntKind.u64.wrap (rd x1 x25)))) % 4294967296)) ((IntKind.u64.wrap ((IntKind.u64.wrap (x6 + (IntKind.u64.wrap (rd x0 x25)))) + (IntKind.u64.wrap (rd x1 x25)))) / 4294967296) x24 (wrap64 (x25 + 1))) else (none)) else (if x25 < (x5.length : Int) then (bignat_Add.l0 k x0 x1 (x5.set (x25 : Int).toNat ((IntKind.u64.wrap (x6 + (IntKind.u64.wrap (rd x0 x25)))) % 4294967296)) ((IntKind.u64.wrap (x6 + (IntKind.u64.wrap (rd x0 x25)))) / 4294967296) x24 (wrap64 (x25 + 1))) else (none))) else (none)) else (none)) else (if 0 ≤ (x0.length : Int) then (if (x0.length : Int) < (x5.length : Int) then ((bignat_trim.f k (x5.set ((x0.length : Int) : Int).toNat ((x6) % 4294967296))).bind fun t269 => (some t269)) else (none)) else (none))
end
def bignat_Add.f (k : Nat) (l0 : List Int) (l1 : List Int) : Option (List Int) := (bignat_trim.f k l0).bind fun t255 => ((bignat_trim.f k l1).bind fun t258 => (if (t255.length : Int) < (t258.length : Int) then (bignat_Add.j0 k t258 t255) else (bignat_Add.j0 k t255 t258)))
theorem bignat_Add.mono_l : ∀ k, (∀ y0 y1, LeO (bignat_Add.j0 k y0 y1) (bignat_Add.j0 (k + 1) y0 y1)) ∧ (∀ y0 y1 y2 y3 y4 y5, LeO (bignat_Add.l0 k y0 y1 y2 y3 y4 y5) (bignat_Add.l0 (k + 1) y0 y1 y2 y3 y4 y5))
 | 0 => ⟨fun _ _ r h => by simp [bignat_Add.j0] at h, fun _ _ _ _ _ _ r h => by simp [bignat_Add.l0] at h⟩
 | k + 1 => by
  obtain ⟨ih0, ih1⟩ := bignat_Add.mono_l k
  refine ⟨?_, ?_⟩
  ·
   intro y0 y1
   unfold bignat_Add.j0
   repeat' first
   | (with_reducible exact ih0 _ _)
   | (with_reducible exact ih1 _ _ _ _ _ _)
   | (with_reducible exact bignat_trim.mono _ _)
   | (with_reducible exact bignat_trim.mono _ _)
   | (with_reducible exact LeO.refl _)
   | (with_reducible exact LeO.none _)
   | (with_reducible refine LeO.ite ?_ ?_)
   | (with_reducible refine LeO.bind ?_ (fun _ => ?_))
   | exact ih0 _ _
   | exact ih1 _ _ _ _ _ _
   | exact bignat_trim.mono _ _
   | exact bignat_trim.mono _ _
   | exact LeO.none _
   | refine LeO.ite ?_ ?_
   | refine LeO.bind ?_ (fun _ => ?_)
  ·
   intro y0 y1 y2 y3 y4 y5
   unfold bignat_Add.l0
   repeat' first
   | (with_reducible exact ih0 _ _)
   | (with_reducible exact ih1 _ _ _ _ _ _)
   | (with_reducible exact bignat_trim.mono _ _)
   | (with_reducible exact bignat_trim.mono _ _)
   | (with_reducible exact LeO.refl _)
   | (with_reducible exact LeO.none _)
   | (with_reducible refine LeO.ite ?_ ?_)
   | (with_reducible refine LeO.bind ?_ (fun _ => ?_))
   | exact ih0 _ _
   | exact ih1 _ _ _ _ _ _
   | exact bignat_trim.mono _ _
   | exact bignat_trim.mono _ _
   | exact LeO.none _
   | refine LeO.ite ?_ ?_
   | refine LeO.bind ?_ (fun _ => ?_)
theorem bignat_Add.mono : ∀ a0 a1 k, LeO (bignat_Add.f k a0 a1) (bignat_Add.f (k + 1) a0 a1) := by
 intro a0 a1 k
 obtain ⟨ih0, ih1⟩ := bignat_Add.mono_l k
 unfold bignat_Add.f
 repeat' first
   | (with_reducible exact ih0 _ _)
   | (with_reducible exact ih1 _ _ _ _ _ _)
   | (with_reducible exact bignat_trim.mono _ _)
   | (with_reducible exact bignat_trim.mono _ _)
   | (with_reducible exact LeO.refl _)
   | (with_reducible exact LeO.none _)
   | (with_reducible refine LeO.ite ?_ ?_)
   | (with_reducible refine LeO.bind ?_ (fun _ => ?_))
   | exact ih0 _ _
   | exact ih1 _ _ _ _ _ _
   | exact bignat_trim.mono _ _
   | exact bignat_trim.mono _ _
   | exact LeO.none _
   | refine LeO.ite ?_ ?_
   | refine LeO.bind ?_ (fun _ => ?_)
set_option maxHeartbeats 8000000 in
set_option maxRecDepth 100000 in
theorem bignat_Add.calls (k : Nat) (A0 : Option Addr) (c0 : Nat) (l0 : List Int) (A1 : Option Addr) (c1 : Nat) (l1 : List Int) (r : List Int) (w : World) (hr0 : Kd.C (Kd.int .u32) w A0 l0.length l0) (hc0 : l0.length ≤ c0) (hr1 : Kd.C (Kd.int .u32) w A1 l1.length l1) (hc1 : l1.length ≤ c1) (h : bignat_Add.f k l0 l1 = some r) :
  Calls Try.prog 19 #[.slice A0 l0.length c0, .slice A1 l1.length c1] w fun e w' => ∃ v0_ : Value, e = .returned (v0_) ∧ Kd.R (Kd.int .u32) 43 w' w.heap.size (fun _ => True) v0_ r ∧ Below w.heap.size w w' := by
 have HR0 := Aside0.mk hr0
 have HC0 := Aside0.mk hc0
 clear hr0 hc0
 have HR1 := Aside0.mk hr1
 have HC1 := Aside0.mk hc1
 clear hr1 hc1
 have HB := Aside0.mk (Below.refl w.heap.size w)
 have H : ((bignat_trim.f k l0).bind fun t255 => ((bignat_trim.f k l1).bind fun t258 => (if (t255.length : Int) < (t258.length : Int) then (bignat_Add.j0 k t258 t255) else (bignat_Add.j0 k t255 t258)))) = some r := h
 clear h
 replace H := Option.bind_eq_some_iff.mp H
 obtain ⟨t255, A30, H⟩ := H
 replace H : ((bignat_trim.f k l1).bind fun t258 => (if (t255.length : Int) < (t258.length : Int) then (bignat_Add.j0 k t258 t255) else (bignat_Add.j0 k t255 t258))) = some r := H
 have A3 := Aside0.mk A30
 clear A30
 replace H := Option.bind_eq_some_iff.mp H
 obtain ⟨t258, A40, H⟩ := H
 replace H : (if (t255.length : Int) < (t258.length : Int) then (bignat_Add.j0 k t258 t255) else (bignat_Add.j0 k t255 t258)) = some r := H
 have A4 := Aside0.mk A40
 clear A40
 have HC5 := Aside0.mk H
 clear H
 go_enter Try.func19, Try.ntmps19
 go_upto_if 16 with (first | ((with_reducible refine gate_callee (f := 47) rfl ?_); refine goesL_ (some 9) rfl rfl Try.func47 (by kernel_rfl) rfl #[.slice A0 l0.length c0] rfl (by first | rfl | (go_simp; first | done | rfl | ((try simp only [IntKind.wrap_u8, IntKind.wrap_u32, IntKind.wrap_u64]); omega))) ?_; (with_reducible refine (bignat_trim.calls k (fun k_ => k_ < w.heap.size) _ _ l0 t255 _ ?side1 A3.out).mono ?_); (case side1 => exact Kd.V_mk HC0.out (Kd.F_below (Kd.C_F (Kd.heap_int .u32) HR0.out) (zb HB rfl))); rintro e w6 ⟨v256, rfl, ho0, hb⟩; refine ⟨_, rfl, ?_⟩; have n0_ := Aside0.mk (Kd.V_lower (Kd.V_mono (ok' := fun k_ => True) ho0 (fun k_ hk_ => trivial)) (below_size (zb HB rfl))); have n1_ := Aside0.mk (below_step (zb HB rfl) hb); clear HB; have HO257 := n0_; have HB := n1_; clear n0_ n1_) | ((with_reducible refine gate_callee (f := 47) rfl ?_); refine goesL_ (some 11) rfl rfl Try.func47 (by kernel_rfl) rfl #[.slice A1 l1.length c1] rfl (by first | rfl | (go_simp; first | done | rfl | ((try simp only [IntKind.wrap_u8, IntKind.wrap_u32, IntKind.wrap_u64]); omega))) ?_; (with_reducible refine (bignat_trim.calls k (fun k_ => k_ < w.heap.size) _ _ l1 t258 _ ?side1 A4.out).mono ?_); (case side1 => exact Kd.V_mk HC1.out (Kd.F_below (Kd.C_F (Kd.heap_int .u32) HR1.out) (zb HB rfl))); rintro e w7 ⟨v259, rfl, ho0, hb⟩; refine ⟨_, rfl, ?_⟩; have n0_ := Aside0.mk (Kd.V_below (zv HO257 rfl) hb); have n1_ := Aside0.mk (Kd.V_lower (Kd.V_mono (ok' := fun k_ => True) ho0 (fun k_ hk_ => trivial)) (below_size (zb HB rfl))); have n2_ := Aside0.mk (below_step (zb HB rfl) hb); clear HO257; clear HB; have HO257 := n0_; have HO260 := n1_; have HB := n2_; clear n0_ n1_ n2_; obtain ⟨Ao8, co8, eo8⟩ := Kd.V_slice HO257.out; subst eo8; obtain ⟨Ao9, co9, eo9⟩ := Kd.V_slice HO260.out; subst eo9))
 (try simp only [Act.put, List.setIfInBounds_toArray, List.set_cons_zero, List.set_cons_succ])
 go_cut [0, 1] (fun v0 v1 wc => ∃ (kq : Nat) (x0_4 : List Int) (x1_4 : List Int), Aside0 (bignat_Add.j0 kq x0_4 x1_4 = some r) ∧ Aside0 (kq ≤ k) ∧ Aside0 (Kd.V (Kd.int .u32) 43 wc w.heap.size (fun _ => True) v0 x0_4) ∧ Aside0 (Kd.V (Kd.int .u32) 43 wc w.heap.size (fun _ => True) v1 x1_4) ∧ Aside0 (Below w.heap.size w wc))
 case first =>
  have H := HC5.out
  clear HC5
  by_cases c10 : (t255.length : Int) < (t258.length : Int)
  ·
   rw [if_pos c10] at H
   have c10b0 : decide ((t255.length : Int) < (t258.length : Int)) = true := decide_eq_true c10
   have c10b1 : decide (t255.length < t258.length) = true := decide_eq_true (Int.ofNat_lt.mp c10)
   clear c10
   (first | rw [c10b0] | rw [c10b1] | (simp only [i64_w, i32_w]; rw [c10b0]) | skip)
   have H' := Aside0.mk H
   clear H
   go_wp2
   go_meet
   case rel => exact ⟨_, (t258), (t255), H', ⟨by first | omega | exact Nat.le_refl _⟩, ⟨by (with_reducible repeat (first | apply Kd.V_alloc | apply Kd.V_drewN | apply Kd.V_drew)); exact HO260.out⟩, ⟨by (with_reducible repeat (first | apply Kd.V_alloc | apply Kd.V_drewN | apply Kd.V_drew)); exact HO257.out⟩, ⟨by repeat (first | (with_reducible first | exact HB.out | apply below_alloc | apply pw_below_drewN | apply below_drew1) | exact HB.out)⟩⟩
  ·
   rw [if_neg c10] at H
   have c10b0 : decide ((t255.length : Int) < (t258.length : Int)) = false := decide_eq_false c10
   have c10b1 : decide (t255.length < t258.length) = false := decide_eq_false (fun h => c10 (Int.ofNat_lt.mpr h))
   clear c10
   (first | rw [c10b0] | rw [c10b1] | (simp only [i64_w, i32_w]; rw [c10b0]) | skip)
   have H' := Aside0.mk H
   clear H
   go_wp2
   go_meet
   case rel => exact ⟨_, (t255), (t258), H', ⟨by first | omega | exact Nat.le_refl _⟩, ⟨by (with_reducible repeat (first | apply Kd.V_alloc | apply Kd.V_drewN | apply Kd.V_drew)); exact HO257.out⟩, ⟨by (with_reducible repeat (first | apply Kd.V_alloc | apply Kd.V_drewN | apply Kd.V_drew)); exact HO260.out⟩, ⟨by repeat (first | (with_reducible first | exact HB.out | apply below_alloc | apply pw_below_drewN | apply below_drew1) | exact HB.out)⟩⟩
 case rest =>
  clear HC5
  try clear c1
  try clear p2
  try clear c4
  try clear c10
  try clear c10b0
  try clear c10b1
  obtain ⟨kq, x0_4, x1_4, HA, HJ4, HO_0, HO_1, HB⟩ := hcut
  cases kq with
  | zero => exact absurd HA.out (by simp [bignat_Add.j0])
  | succ kj4 =>
   have H := HA.out
   clear HA
   simp only [bignat_Add.j0] at H
   obtain ⟨ji11, hji11⟩ : ∃ j_ : Int, (wrap64 ((x0_4.length : Int) + 1)) = j_ := ⟨_, rfl⟩
   replace H : (if 0 ≤ (ji11) then (if (ji11 : Int).toNat ≤ 70368744177664 then (bignat_Add.l0 kj4 x0_4 x1_4 (List.replicate (ji11 : Int).toNat 0) 0 (x0_4.length : Int) 0) else (none)) else (none)) = some r := by first | (rw [hji11] at H; exact H) | (simp only [hji11] at H ⊢; exact H)
   have hji11w : (IntKind.i64.wrap ((x0_4.length : Int) + 1)) = ji11 := (i64_w _).trans hji11
   by_cases c12 : 0 ≤ (ji11)
   ·
    rw [if_pos c12] at H
    have c12b0 := eq_true c12
    have c12b1 : decide (0 ≤ (ji11)) = true := decide_eq_true c12
    clear c12
    by_cases c13 : (ji11 : Int).toNat ≤ 70368744177664
    ·
     rw [if_pos c13] at H
     have c13b0 := eq_true c13
     have c13b1 : decide ((ji11 : Int).toNat ≤ 70368744177664) = true := decide_eq_true c13
     clear c13
     obtain ⟨y261, hy261⟩ : ∃ y_ : List Int, y_ = (List.replicate (ji11 : Int).toNat 0) := ⟨_, rfl⟩
     replace H : (bignat_Add.l0 kj4 x0_4 x1_4 y261 0 (x0_4.length : Int) 0) = some r := by first | (rw [hy261]; with_reducible exact H) | (have H2_ := (Option.bind_some _ _).symm.trans H; rw [hy261]; with_reducible exact H2_) | (have H2_ := (Option.bind_some _ _).symm.trans H; with_reducible exact H2_) | with_reducible exact H | (rw [hy261]; exact H) | exact H
     have Ny261 := Aside0.mk hy261
     clear hy261
     have H' := Aside0.mk H
     clear H
     obtain ⟨Ao14, co14, eo14⟩ := Kd.V_slice HO_0.out
     subst eo14
     go_wp2_with (first | ((with_reducible refine gate_dst (N := 22) rfl ?_); refine Kd.R_make (Kd.int .u32) _ 43 rfl (N := 22) rfl 23 _ _ rfl ji11 rfl rfl Try.underlying23 (.int .u32 0) 4 info43 rfl (by decide) (by omega) 0 (ok := fun _ => True) (okp := fun _ => True) rfl (fun _ hk => hk) trivial (of_decide_eq_true (by first | (with_reducible assumption) | assumption)) (Nat.le_trans (Nat.mul_le_mul_right _ (of_decide_eq_true (by first | (with_reducible assumption) | assumption) : ji11.toNat ≤ 70368744177664)) (by omega)) (Below.refl _ _) (Nat.le_refl _) ?_; intro v262 w15 ho16 hb hg_ hnew_; clear hg_ hnew_; (first | rw [← Ny261.out] at ho16 | (simp only [Int.reduceToNat] at ho16; rw [← Ny261.out] at ho16)); have n0_ := Aside0.mk (Kd.V_elder' (zv HO_0 rfl) (Kd.R_base ho16) hb); have n1_ := Aside0.mk (Kd.V_elder' (zv HO_1 rfl) (Kd.R_base ho16) hb); have n2_ := Aside0.mk (Kd.R_lower ho16 (below_size (zb HB rfl))); have n3_ := Aside0.mk (below_step (zb HB rfl) hb); clear HO_0; clear HO_1; clear HB; have HO_0 := n0_; have HO_1 := n1_; have HO263 := n2_; have HB := n3_; clear n0_ n1_ n2_ n3_; clear hb ho16))
     go_loopg [6, 25] kj4 (fun kq v6 v25 w' => ∃ (x5_2 : List Int) (x6_2 : Int) (x25_2 : Int), v6 = .int .u64 x6_2 ∧ v25 = .int .i64 x25_2 ∧ Aside0 (bignat_Add.l0 kq x0_4 x1_4 x5_2 x6_2 (x0_4.length : Int) x25_2 = some r) ∧ Aside0 (kq ≤ kj4) ∧ Aside0 (Kd.V (Kd.int .u32) 43 w' w.heap.size (fun k_ => some k_ ≠ (v262 : Value).ownBlock) (.slice Ao14 x0_4.length co14) x0_4) ∧ Aside0 (Kd.V (Kd.int .u32) 43 w' w.heap.size (fun k_ => some k_ ≠ (v262 : Value).ownBlock) u1 x1_4) ∧ Aside0 (Kd.R (Kd.int .u32) 43 w' w.heap.size (fun _ => True) v262 x5_2) ∧ Aside0 (Below w.heap.size w w'))
     case atStart => exact ⟨(y261), (0), (0), (by first | rfl | (simp [*]; done)), (by first | rfl | (simp [*]; done)), H', ⟨Nat.le_refl _⟩, ⟨by (with_reducible repeat (first | apply Kd.V_alloc | apply Kd.V_drewN | apply Kd.V_drew)); exact Kd.V_mono HO_0.out (fun _ hk => hk.2)⟩, ⟨by (with_reducible repeat (first | apply Kd.V_alloc | apply Kd.V_drewN | apply Kd.V_drew)); exact Kd.V_mono HO_1.out (fun _ hk => hk.2)⟩, ⟨by (with_reducible repeat (first | apply Kd.R_alloc | apply Kd.R_drewN | apply Kd.R_drew)); exact HO263.out⟩, ⟨by repeat (first | (with_reducible first | exact HB.out | apply below_alloc | apply pw_below_drewN | apply below_drew1) | exact HB.out)⟩⟩
     case round =>
      clear H'
      try clear c1
      try clear p2
      try clear c4
      try clear p6
      try clear c10
      try clear c10b0
      try clear c10b1
      try clear c12
      try clear c12b0
      try clear c12b1
      try clear c13
      try clear c13b0
      try clear c13b1
      try clear p2
      obtain ⟨x5_2, x6_2, x25_2, rfl, rfl, HA, HK2, HO_0, HO_1, HO_5, HB⟩ := hrel
      cases gk with
      | zero => exact absurd HA.out (by simp [bignat_Add.l0])
      | succ k2 =>
       have H := HA.out
       clear HA
       simp only [bignat_Add.l0] at H
       by_cases c17 : x25_2 < (x0_4.length : Int)
       ·
        rw [if_pos c17] at H
        have c17b0 : decide (x25_2 < (x0_4.length : Int)) = true := decide_eq_true c17
        clear c17
        by_cases c18 : 0 ≤ x25_2
        ·
         rw [if_pos c18] at H
         have c18b0 : decide (0 ≤ x25_2) = true := decide_eq_true c18
         clear c18
         by_cases c19 : x25_2 < (x0_4.length : Int)
         ·
          rw [if_pos c19] at H
          have c19b0 : decide (x25_2 < (x0_4.length : Int)) = true := decide_eq_true c19
          clear c19
          by_cases c20 : x25_2 < (x1_4.length : Int)
          ·
           rw [if_pos c20] at H
           have c20b0 : decide (x25_2 < (x1_4.length : Int)) = true := decide_eq_true c20
           clear c20
           by_cases c21 : x25_2 < (x5_2.length : Int)
           ·
            rw [if_pos c21] at H
            have c21b0 : decide (x25_2 < (x5_2.length : Int)) = true := decide_eq_true c21
            clear c21
            obtain ⟨y266, hy266⟩ : ∃ y_ : List Int, y_ = (x5_2.set (x25_2 : Int).toNat ((IntKind.u64.wrap ((IntKind.u64.wrap (x6_2 + (IntKind.u64.wrap (rd x0_4 x25_2)))) + (IntKind.u64.wrap (rd x1_4 x25_2)))) % 4294967296)) := ⟨_, rfl⟩
            replace H : (bignat_Add.l0 k2 x0_4 x1_4 y266 ((IntKind.u64.wrap ((IntKind.u64.wrap (x6_2 + (IntKind.u64.wrap (rd x0_4 x25_2)))) + (IntKind.u64.wrap (rd x1_4 x25_2)))) / 4294967296) (x0_4.length : Int) (wrap64 (x25_2 + 1))) = some r := by first | (rw [hy266]; with_reducible exact H) | (have H2_ := (Option.bind_some _ _).symm.trans H; rw [hy266]; with_reducible exact H2_) | (have H2_ := (Option.bind_some _ _).symm.trans H; with_reducible exact H2_) | with_reducible exact H | (rw [hy266]; exact H) | exact H
            have Ny266 := Aside0.mk hy266
            clear hy266
            have H' := Aside0.mk H
            clear H
            have p264 : 0 ≤ (x25_2 : Int) := of_decide_eq_true (by first | (with_reducible assumption) | assumption)
            have q264 : x25_2 < (x0_4.length : Int) := of_decide_eq_true (by first | (with_reducible assumption) | assumption)
            obtain ⟨ad264, e264, hx264_0⟩ := Kd.at_int (Kd.V_reads' HO_0.out).2.2 x25_2 p264 q264
            cases e264
            replace p264 := eq_true p264
            replace q264 := eq_true q264
            obtain ⟨Ao23, co23, eo23⟩ := Kd.V_slice HO_1.out
            subst eo23
            have p265 : 0 ≤ (x25_2 : Int) := of_decide_eq_true (by first | (with_reducible assumption) | assumption)
            have q265 : x25_2 < (x1_4.length : Int) := of_decide_eq_true (by first | (with_reducible assumption) | assumption)
            obtain ⟨ad265, e265, hx265_0⟩ := Kd.at_int (Kd.V_reads' HO_1.out).2.2 x25_2 p265 q265
            cases e265
            replace p265 := eq_true p265
            replace q265 := eq_true q265
            have p22 : 0 ≤ (x25_2 : Int) := of_decide_eq_true (by first | (with_reducible assumption) | assumption)
            have q22 : (x25_2 : Int) < ((x5_2.length : Int) : Int) := of_decide_eq_true (by first | (with_reducible assumption) | assumption)
            obtain ⟨go22, co22, eo22, gb22, gl22, cl22, HG22⟩ := Kd.R_form HO_5.out (by omega)
            (first | cases eo22 | (injection eo22 with ea_ en_ ec_; (first | subst ea_ | (injection ea_ with ea_; subst ea_)); subst ec_; clear en_))
            have GB22 := Aside0.mk gb22
            have GG22 := Aside0.mk HG22
            clear gb22 gl22 HG22
            obtain ⟨hx22_0, hf22_0⟩ := Kd.R_celln 0 HO_5.out (x25_2 : Int) p22 q22
            replace p22 := eq_true p22
            replace q22 := eq_true q22
            obtain ⟨hy24_, hz24_⟩ := Kd.R_celln 0 HO_5.out (x25_2 : Int) (of_decide_eq_true (by first | (with_reducible assumption) | assumption)) (of_decide_eq_true (by first | (with_reducible assumption) | assumption))
            have HP24 := Kd.R_putg HO_5.out (x25_2 : Int) ((IntKind.u64.wrap ((IntKind.u64.wrap (x6_2 + (IntKind.u64.wrap (rd x0_4 x25_2)))) + (IntKind.u64.wrap (rd x1_4 x25_2)))) % 4294967296)
            go_wp2_with (first | ((with_reducible refine gate_store (t := 43) (p := 50) rfl ?_); refine store_event (t := 43) (p := 50) (v := ?vo_w25) (w1 := (wr.setCell ⟨go22, (x25_2 : Int).toNat, none⟩ (.int .u32 ((IntKind.u64.wrap ((IntKind.u64.wrap (x6_2 + (IntKind.u64.wrap (rd x0_4 x25_2)))) + (IntKind.u64.wrap (rd x1_4 x25_2)))) % 4294967296)))) ?hg ?ho ?hn ?hr ?_; (case ho => rfl); (case hg => rfl); (case hn => rfl); (case hr => first | (go_simp; done) | (go_simp; rfl)); intro w25 hw; have hg : wr.grownBy w25 (some go22) := (by rw [hw]; exact HP24.2); have hp_ : Kd.R (Kd.int .u32) 43 w25 w.heap.size (fun _ => True) (.slice (some ⟨go22, 0, none⟩) x5_2.length co22) y266 := (by rw [hw, Ny266.out]; exact HP24.1); clear HP24; have n0_ := Aside0.mk (Kd.V_afterv (v := (.slice (some ⟨go22, 0, none⟩) x5_2.length co22)) (v1 := (.slice (some ⟨go22, 0, none⟩) x5_2.length co22)) (ok := (fun _ => True)) (by (with_reducible repeat (first | apply Kd.V_alloc | apply Kd.V_drewN | apply Kd.V_drew)); exact Kd.V_mono HO_0.out (fun _ hk => ⟨trivial, hk⟩)) hg (.inl rfl)); have n1_ := Aside0.mk (Kd.V_afterv (v := (.slice (some ⟨go22, 0, none⟩) x5_2.length co22)) (v1 := (.slice (some ⟨go22, 0, none⟩) x5_2.length co22)) (ok := (fun _ => True)) (by (with_reducible repeat (first | apply Kd.V_alloc | apply Kd.V_drewN | apply Kd.V_drew)); exact Kd.V_mono HO_1.out (fun _ hk => ⟨trivial, hk⟩)) hg (.inl rfl)); have n2_ := Aside0.mk (hp_); have n3_ := Aside0.mk ((by rw [hw]; exact below_set (HB.out) GB22.out : Below w.heap.size w w25)); clear HO_0; clear HO_1; clear HO_5; clear HB; have HO_0 := n0_; have HO_1 := n1_; have HO_5 := n2_; have HB := n3_; clear n0_ n1_ n2_ n3_; clear hg hw hp_))
            go_roundg k2
            case measure => have := HJ4.out; have := HK2.out; omega
            case rel => exact ⟨(y266), ((IntKind.u64.wrap ((IntKind.u64.wrap (x6_2 + (IntKind.u64.wrap (rd x0_4 x25_2)))) + (IntKind.u64.wrap (rd x1_4 x25_2)))) / 4294967296), (wrap64 (x25_2 + 1)), (by first | rfl | (simp [*]; done)), (by first | rfl | (simp [*]; done)), H', ⟨by have := HJ4.out; have := HK2.out; omega⟩, ⟨by (with_reducible repeat (first | apply Kd.V_alloc | apply Kd.V_drewN | apply Kd.V_drew)); exact Kd.V_mono HO_0.out (fun _ hk => hk.2)⟩, ⟨by (with_reducible repeat (first | apply Kd.V_alloc | apply Kd.V_drewN | apply Kd.V_drew)); exact Kd.V_mono HO_1.out (fun _ hk => hk.2)⟩, ⟨by (with_reducible repeat (first | apply Kd.R_alloc | apply Kd.R_drewN | apply Kd.R_drew)); exact HO_5.out⟩, ⟨by repeat (first | (with_reducible first | exact HB.out | apply below_alloc | apply pw_below_drewN | apply below_drew1) | exact HB.out)⟩⟩
           ·
            rw [if_neg c21] at H
            exact absurd H (by simp)
          ·
           rw [if_neg c20] at H
           have c20b0 : decide (x25_2 < (x1_4.length : Int)) = false := decide_eq_false c20
           clear c20
           by_cases c26 : x25_2 < (x5_2.length : Int)
           ·
            rw [if_pos c26] at H
            have c26b0 : decide (x25_2 < (x5_2.length : Int)) = true := decide_eq_true c26
            clear c26
            obtain ⟨y267, hy267⟩ : ∃ y_ : List Int, y_ = (x5_2.set (x25_2 : Int).toNat ((IntKind.u64.wrap (x6_2 + (IntKind.u64.wrap (rd x0_4 x25_2)))) % 4294967296)) := ⟨_, rfl⟩
            replace H : (bignat_Add.l0 k2 x0_4 x1_4 y267 ((IntKind.u64.wrap (x6_2 + (IntKind.u64.wrap (rd x0_4 x25_2)))) / 4294967296) (x0_4.length : Int) (wrap64 (x25_2 + 1))) = some r := by first | (rw [hy267]; with_reducible exact H) | (have H2_ := (Option.bind_some _ _).symm.trans H; rw [hy267]; with_reducible exact H2_) | (have H2_ := (Option.bind_some _ _).symm.trans H; with_reducible exact H2_) | with_reducible exact H | (rw [hy267]; exact H) | exact H
            have Ny267 := Aside0.mk hy267
            clear hy267
            have H' := Aside0.mk H
            clear H
            have p264 : 0 ≤ (x25_2 : Int) := of_decide_eq_true (by first | (with_reducible assumption) | assumption)
            have q264 : x25_2 < (x0_4.length : Int) := of_decide_eq_true (by first | (with_reducible assumption) | assumption)
            obtain ⟨ad264, e264, hx264_0⟩ := Kd.at_int (Kd.V_reads' HO_0.out).2.2 x25_2 p264 q264
            cases e264
            replace p264 := eq_true p264
            replace q264 := eq_true q264
            obtain ⟨Ao28, co28, eo28⟩ := Kd.V_slice HO_1.out
            subst eo28
            have p27 : 0 ≤ (x25_2 : Int) := of_decide_eq_true (by first | (with_reducible assumption) | assumption)
            have q27 : (x25_2 : Int) < ((x5_2.length : Int) : Int) := of_decide_eq_true (by first | (with_reducible assumption) | assumption)
            obtain ⟨go27, co27, eo27, gb27, gl27, cl27, HG27⟩ := Kd.R_form HO_5.out (by omega)
            (first | cases eo27 | (injection eo27 with ea_ en_ ec_; (first | subst ea_ | (injection ea_ with ea_; subst ea_)); subst ec_; clear en_))
            have GB27 := Aside0.mk gb27
            have GG27 := Aside0.mk HG27
            clear gb27 gl27 HG27
            obtain ⟨hx27_0, hf27_0⟩ := Kd.R_celln 0 HO_5.out (x25_2 : Int) p27 q27
            replace p27 := eq_true p27
            replace q27 := eq_true q27
            obtain ⟨hy29_, hz29_⟩ := Kd.R_celln 0 HO_5.out (x25_2 : Int) (of_decide_eq_true (by first | (with_reducible assumption) | assumption)) (of_decide_eq_true (by first | (with_reducible assumption) | assumption))
            have HP29 := Kd.R_putg HO_5.out (x25_2 : Int) ((IntKind.u64.wrap (x6_2 + (IntKind.u64.wrap (rd x0_4 x25_2)))) % 4294967296)
            go_wp2_with (first | ((with_reducible refine gate_store (t := 43) (p := 50) rfl ?_); refine store_event (t := 43) (p := 50) (v := ?vo_w30) (w1 := (wr.setCell ⟨go27, (x25_2 : Int).toNat, none⟩ (.int .u32 ((IntKind.u64.wrap (x6_2 + (IntKind.u64.wrap (rd x0_4 x25_2)))) % 4294967296)))) ?hg ?ho ?hn ?hr ?_; (case ho => rfl); (case hg => rfl); (case hn => rfl); (case hr => first | (go_simp; done) | (go_simp; rfl)); intro w30 hw; have hg : wr.grownBy w30 (some go27) := (by rw [hw]; exact HP29.2); have hp_ : Kd.R (Kd.int .u32) 43 w30 w.heap.size (fun _ => True) (.slice (some ⟨go27, 0, none⟩) x5_2.length co27) y267 := (by rw [hw, Ny267.out]; exact HP29.1); clear HP29; have n0_ := Aside0.mk (Kd.V_afterv (v := (.slice (some ⟨go27, 0, none⟩) x5_2.length co27)) (v1 := (.slice (some ⟨go27, 0, none⟩) x5_2.length co27)) (ok := (fun _ => True)) (by (with_reducible repeat (first | apply Kd.V_alloc | apply Kd.V_drewN | apply Kd.V_drew)); exact Kd.V_mono HO_0.out (fun _ hk => ⟨trivial, hk⟩)) hg (.inl rfl)); have n1_ := Aside0.mk (Kd.V_afterv (v := (.slice (some ⟨go27, 0, none⟩) x5_2.length co27)) (v1 := (.slice (some ⟨go27, 0, none⟩) x5_2.length co27)) (ok := (fun _ => True)) (by (with_reducible repeat (first | apply Kd.V_alloc | apply Kd.V_drewN | apply Kd.V_drew)); exact Kd.V_mono HO_1.out (fun _ hk => ⟨trivial, hk⟩)) hg (.inl rfl)); have n2_ := Aside0.mk (hp_); have n3_ := Aside0.mk ((by rw [hw]; exact below_set (HB.out) GB27.out : Below w.heap.size w w30)); clear HO_0; clear HO_1; clear HO_5; clear HB; have HO_0 := n0_; have HO_1 := n1_; have HO_5 := n2_; have HB := n3_; clear n0_ n1_ n2_ n3_; clear hg hw hp_))
            go_roundg k2
            case measure => have := HJ4.out; have := HK2.out; omega
            case rel => exact ⟨(y267), ((IntKind.u64.wrap (x6_2 + (IntKind.u64.wrap (rd x0_4 x25_2)))) / 4294967296), (wrap64 (x25_2 + 1)), (by first | rfl | (simp [*]; done)), (by first | rfl | (simp [*]; done)), H', ⟨by have := HJ4.out; have := HK2.out; omega⟩, ⟨by (with_reducible repeat (first | apply Kd.V_alloc | apply Kd.V_drewN | apply Kd.V_drew)); exact Kd.V_mono HO_0.out (fun _ hk => hk.2)⟩, ⟨by (with_reducible repeat (first | apply Kd.V_alloc | apply Kd.V_drewN | apply Kd.V_drew)); exact Kd.V_mono HO_1.out (fun _ hk => hk.2)⟩, ⟨by (with_reducible repeat (first | apply Kd.R_alloc | apply Kd.R_drewN | apply Kd.R_drew)); exact HO_5.out⟩, ⟨by repeat (first | (with_reducible first | exact HB.out | apply below_alloc | apply pw_below_drewN | apply below_drew1) | exact HB.out)⟩⟩
           ·
            rw [if_neg c26] at H
            exact absurd H (by simp)
         ·
          rw [if_neg c19] at H
          exact absurd H (by simp)
        ·
         rw [if_neg c18] at H
         exact absurd H (by simp)
       ·
        rw [if_neg c17] at H
        have c17b0 : decide (x25_2 < (x0_4.length : Int)) = false := decide_eq_false c17
        clear c17
        by_cases c31 : 0 ≤ (x0_4.length : Int)
        ·
         rw [if_pos c31] at H
         have c31b0 : decide (0 ≤ (x0_4.length : Int)) = true := decide_eq_true c31
         have c31b1 : decide (0 ≤ x0_4.length) = true := decide_eq_true (by omega)
         clear c31
         by_cases c32 : (x0_4.length : Int) < (x5_2.length : Int)
         ·
          rw [if_pos c32] at H
          have c32b0 : decide ((x0_4.length : Int) < (x5_2.length : Int)) = true := decide_eq_true c32
          have c32b1 : decide (x0_4.length < x5_2.length) = true := decide_eq_true (Int.ofNat_lt.mp c32)
          clear c32
          obtain ⟨y268, hy268⟩ : ∃ y_ : List Int, y_ = (x5_2.set ((x0_4.length : Int) : Int).toNat ((x6_2) % 4294967296)) := ⟨_, rfl⟩
          replace H : ((bignat_trim.f k2 y268).bind fun t269 => (some t269)) = some r := by first | (rw [hy268]; with_reducible exact H) | (have H2_ := (Option.bind_some _ _).symm.trans H; rw [hy268]; with_reducible exact H2_) | (have H2_ := (Option.bind_some _ _).symm.trans H; with_reducible exact H2_) | with_reducible exact H | (rw [hy268]; exact H) | exact H
          have Ny268 := Aside0.mk hy268
          clear hy268
          replace H := Option.bind_eq_some_iff.mp H
          obtain ⟨t269, A340, H⟩ := H
          replace H : (some t269) = some r := H
          have A34 := Aside0.mk A340
          clear A340
          obtain rfl := Option.some.inj H
          have p33 : 0 ≤ ((x0_4.length : Int) : Int) := of_decide_eq_true (by first | (with_reducible assumption) | assumption)
          have q33 : ((x0_4.length : Int) : Int) < ((x5_2.length : Int) : Int) := of_decide_eq_true (by first | (with_reducible assumption) | assumption)
          obtain ⟨go33, co33, eo33, gb33, gl33, cl33, HG33⟩ := Kd.R_form HO_5.out (by omega)
          (first | cases eo33 | (injection eo33 with ea_ en_ ec_; (first | subst ea_ | (injection ea_ with ea_; subst ea_)); subst ec_; clear en_))
          have GB33 := Aside0.mk gb33
          have GG33 := Aside0.mk HG33
          clear gb33 gl33 HG33
          obtain ⟨hx33_0, hf33_0⟩ := Kd.R_celln 0 HO_5.out ((x0_4.length : Int) : Int) p33 q33
          replace p33 := eq_true p33
          replace q33 := eq_true q33
          obtain ⟨hy35_, hz35_⟩ := Kd.R_celln 0 HO_5.out ((x0_4.length : Int) : Int) (of_decide_eq_true (by first | (with_reducible assumption) | assumption)) (of_decide_eq_true (by first | (with_reducible assumption) | assumption))
          (try simp only [Go.IntWalk.toNatUp] at hy35_ hz35_)
          have HP35 := Kd.R_putg HO_5.out ((x0_4.length : Int) : Int) ((x6_2) % 4294967296)
          go_wp2_with (first | ((with_reducible refine gate_store (t := 43) (p := 59) rfl ?_); refine store_event (t := 43) (p := 59) (v := ?vo_w36) (w1 := (wr.setCell ⟨go33, ((x0_4.length : Int) : Int).toNat, none⟩ (.int .u32 ((x6_2) % 4294967296)))) ?hg ?ho ?hn ?hr ?_; (case ho => rfl); (case hg => rfl); (case hn => rfl); (case hr => first | (go_simp; done) | (go_simp; rfl)); intro w36 hw; have hg : wr.grownBy w36 (some go33) := (by rw [hw]; exact HP35.2); have hp_ : Kd.R (Kd.int .u32) 43 w36 w.heap.size (fun _ => True) (.slice (some ⟨go33, 0, none⟩) x5_2.length co33) y268 := (by rw [hw, Ny268.out]; exact HP35.1); clear HP35; have n0_ := Aside0.mk (Kd.V_afterv (v := (.slice (some ⟨go33, 0, none⟩) x5_2.length co33)) (v1 := (.slice (some ⟨go33, 0, none⟩) x5_2.length co33)) (ok := (fun _ => True)) (by (with_reducible repeat (first | apply Kd.V_alloc | apply Kd.V_drewN | apply Kd.V_drew)); exact Kd.V_mono HO_0.out (fun _ hk => ⟨trivial, hk⟩)) hg (.inl rfl)); have n1_ := Aside0.mk (Kd.V_afterv (v := (.slice (some ⟨go33, 0, none⟩) x5_2.length co33)) (v1 := (.slice (some ⟨go33, 0, none⟩) x5_2.length co33)) (ok := (fun _ => True)) (by (with_reducible repeat (first | apply Kd.V_alloc | apply Kd.V_drewN | apply Kd.V_drew)); exact Kd.V_mono HO_1.out (fun _ hk => ⟨trivial, hk⟩)) hg (.inl rfl)); have n2_ := Aside0.mk (hp_); have n3_ := Aside0.mk ((by rw [hw]; exact below_set (HB.out) GB33.out : Below w.heap.size w w36)); clear HO_0; clear HO_1; clear HO_5; clear HB; have HO_0 := n0_; have HO_1 := n1_; have HO_5 := n2_; have HB := n3_; clear n0_ n1_ n2_ n3_; clear hg hw hp_) | ((with_reducible refine gate_callee (f := 47) rfl ?_); refine goesL_ (some 61) rfl rfl Try.func47 (by kernel_rfl) rfl #[.slice (some ⟨go33, 0, none⟩) x5_2.length co33] rfl (by first | rfl | (go_simp; first | done | rfl | ((try simp only [IntKind.wrap_u8, IntKind.wrap_u32, IntKind.wrap_u64]); omega))) ?_; (with_reducible refine (bignat_trimO.calls k2 (fun k_ => some k_ = (.slice (some ⟨go33, 0, none⟩) x5_2.length co33 : Value).ownBlock) (.slice (some ⟨go33, 0, none⟩) x5_2.length co33) y268 t269 w _ ?side1 ?side2 A34.out).mono ?_); (case side1 => repeat (first | (with_reducible first | exact HB.out | apply below_alloc | apply pw_below_drewN | apply below_drew1) | exact HB.out)); (case side2 => exact Kd.R_tight rfl HO_5.out); rintro e w37 ⟨v270, rfl, ho0, hb, hkp⟩; refine ⟨_, rfl, ?_⟩; have n0_ := Aside0.mk (Kd.V_mono (ok' := fun k_ => some k_ ≠ (v270 : Value).ownBlock) (Kd.V_keptB (HO_0.out) hkp (fun k_ hk_ hs_ => (hk_.2) hs_)) (fun k_ hk_ => fun e_ => Or.elim (ho0.1 k_ e_.symm) (fun hs_ => hk_.2.1 hs_) (fun hn_ => Nat.not_le.2 hk_.2.2 hn_))); have n1_ := Aside0.mk (Kd.V_mono (ok' := fun k_ => some k_ ≠ (v270 : Value).ownBlock) (Kd.V_keptB (HO_1.out) hkp (fun k_ hk_ hs_ => (hk_.2) hs_)) (fun k_ hk_ => fun e_ => Or.elim (ho0.1 k_ e_.symm) (fun hs_ => hk_.2.1 hs_) (fun hn_ => Nat.not_le.2 hk_.2.2 hn_))); have n2_ := Aside0.mk (Kd.R_mono (ok' := fun k_ => True) ho0 (fun k_ hk_ => trivial)); have n3_ := Aside0.mk (hb); clear HO_0; clear HO_1; clear HB; clear HO_5; have HO_0 := n0_; have HO_1 := n1_; have HO271 := n2_; have HB := n3_; clear n0_ n1_ n2_ n3_; (try clear hkp)))
          go_ret
          exact ⟨_, by first | rfl | (simp [errW_none, errW_some] <;> rfl) | (simp only [← hji11]; first | rfl | (simp [errW_none, errW_some] <;> rfl)) | (simp [*, errW_none, errW_some] <;> rfl), by (with_reducible repeat (first | apply Kd.R_alloc | apply Kd.R_drewN | apply Kd.R_drew)); exact HO271.out, by repeat (first | (with_reducible first | exact HB.out | apply below_alloc | apply pw_below_drewN | apply below_drew1) | exact HB.out)⟩
         ·
          rw [if_neg c32] at H
          exact absurd H (by simp)
        ·
         rw [if_neg c31] at H
         exact absurd H (by simp)
    ·
     rw [if_neg c13] at H
     exact absurd H (by simp)
   ·
    rw [if_neg c12] at H
    exact absurd H (by simp)

mutual
def bignat_Mul.j0 : Nat → List Int → List Int → Bool → Option (List Int)
 | 0, _, _, _ => none
 | k + 1, x0, x1, x22 => if x22 = true then (some ([] : List Int)) else (if 0 ≤ (wrap64 ((x0.length : Int) + (x1.length : Int))) then (if (wrap64 ((x0.length : Int) + (x1.length : Int)) : Int).toNat ≤ 70368744177664 then (bignat_Mul.l0 k x1 (List.replicate (wrap64 ((x0.length : Int) + (x1.length : Int)) : Int).toNat 0) x0 (x0.length : Int) 0) else (none)) else (none))
def bignat_Mul.l0 : Nat → List Int → List Int → List Int → Int → Int → Option (List Int)
 | 0, _, _, _, _, _ => none
 | k + 1, x1, x5, x29, x30, x31 => if x31 < x30 then (if 0 ≤ x31 then (if x31 < (x29.length : Int) then (bignat_Mul.l1 k x1 x5 x31 (rd x29 x31) 0 x29 x30 x31 x1 (x1.length : Int) 0) else (none)) else (none)) else ((bignat_trim.f k x5).bind fun t281 => (some t281))
def bignat_Mul.l1 : Nat → List Int → List Int → Int → Int → Int → List Int → Int → Int → List Int → Int → Int → Option (List Int)
 | 0, _, _, _, _, _, _, _, _, _, _, _ => none
 | k + 1, x1, x5, x6, x7, x8, x29, x30, x31, x36, x37, x38 => if x38 < x37 then (if 0 ≤ x38 then (if x38 < (x36.length : Int) then (if 0 ≤ (wrap64 (x6 + x38)) then (if (wrap64 (x6 + x38)) < (x5.length : Int) then (bignat_Mul.l1 k x1 (x5.set ((wrap64 (x6 + x38)) : Int).toNat ((IntKind.u64.wrap (x8 + (IntKind.u64.wrap ((IntKind.u64.wrap ((IntKind.u64.wrap (x7)) * (IntKind.u64.wrap (rd x36 x38)))) + (IntKind.u64.wrap (rd x5 (wrap64 (x6 + x38)))))))) % 4294967296)) x6 x7 ((IntKind.u64.wrap (x8 + (IntKind.u64.wrap ((IntKind.u64.wrap ((IntKind.u64.wrap (x7)) * (IntKind.u64.wrap (rd x36 x38)))) + (IntKind.u64.wrap (rd x5 (wrap64 (x6 + x38)))))))) / 4294967296) x29 x30 x31 x36 x37 (wrap64 (x38 + 1))) else (none)) else (none)) else (none)) else (none)) else (if 0 ≤ (wrap64 (x6 + (x1.length : Int))) then (if (wrap64 (x6 + (x1.length : Int))) < (x5.length : Int) then (bignat_Mul.l0 k x1 (x5.set ((wrap64 (x6 + (x1.length : Int))) : Int).toNat ((x8) % 4294967296)) x29 x30 (wrap64 (x31 + 1))) else (none)) else (none))
end
def bignat_Mul.f (k : Nat) (l0 : List Int) (l1 : List Int) : Option (List Int) := (bignat_trim.f k l0).bind fun t272 => ((bignat_trim.f k l1).bind fun t275 => (if (t272.length : Int) = 0 then (bignat_Mul.j0 k t272 t275 true) else (bignat_Mul.j0 k t272 t275 ((t275.length : Int) == 0))))
theorem bignat_Mul.mono_l : ∀ k, (∀ y0 y1 y2, LeO (bignat_Mul.j0 k y0 y1 y2) (bignat_Mul.j0 (k + 1) y0 y1 y2)) ∧ (∀ y0 y1 y2 y3 y4, LeO (bignat_Mul.l0 k y0 y1 y2 y3 y4) (bignat_Mul.l0 (k + 1) y0 y1 y2 y3 y4)) ∧ (∀ y0 y1 y2 y3 y4 y5 y6 y7 y8 y9 y10, LeO (bignat_Mul.l1 k y0 y1 y2 y3 y4 y5 y6 y7 y8 y9 y10) (bignat_Mul.l1 (k + 1) y0 y1 y2 y3 y4 y5 y6 y7 y8 y9 y10))
 | 0 => ⟨fun _ _ _ r h => by simp [bignat_Mul.j0] at h, fun _ _ _ _ _ r h => by simp [bignat_Mul.l0] at h, fun _ _ _ _ _ _ _ _ _ _ _ r h => by simp [bignat_Mul.l1] at h⟩
 | k + 1 => by
  obtain ⟨ih0, ih1, ih2⟩ := bignat_Mul.mono_l k
  refine ⟨?_, ?_, ?_⟩
  ·
   intro y0 y1 y2
   unfold bignat_Mul.j0
   repeat' first
   | (with_reducible exact ih0 _ _ _)
   | (with_reducible exact ih1 _ _ _ _ _)
   | (with_reducible exact ih2 _ _ _ _ _ _ _ _ _ _ _)
   | (with_reducible exact bignat_trim.mono _ _)
   | (with_reducible exact bignat_trim.mono _ _)
   | (with_reducible exact LeO.refl _)
   | (with_reducible exact LeO.none _)
   | (with_reducible refine LeO.ite ?_ ?_)
   | (with_reducible refine LeO.bind ?_ (fun _ => ?_))
   | exact ih0 _ _ _
   | exact ih1 _ _ _ _ _
   | exact ih2 _ _ _ _ _ _ _ _ _ _ _
   | exact bignat_trim.mono _ _
   | exact bignat_trim.mono _ _
   | exact LeO.none _
   | refine LeO.ite ?_ ?_
   | refine LeO.bind ?_ (fun _ => ?_)
  ·
   intro y0 y1 y2 y3 y4
   unfold bignat_Mul.l0
   repeat' first
   | (with_reducible exact ih0 _ _ _)
   | (with_reducible exact ih1 _ _ _ _ _)
   | (with_reducible exact ih2 _ _ _ _ _ _ _ _ _ _ _)
   | (with_reducible exact bignat_trim.mono _ _)
   | (with_reducible exact bignat_trim.mono _ _)
   | (with_reducible exact LeO.refl _)
   | (with_reducible exact LeO.none _)
   | (with_reducible refine LeO.ite ?_ ?_)
   | (with_reducible refine LeO.bind ?_ (fun _ => ?_))
   | exact ih0 _ _ _
   | exact ih1 _ _ _ _ _
   | exact ih2 _ _ _ _ _ _ _ _ _ _ _
   | exact bignat_trim.mono _ _
   | exact bignat_trim.mono _ _
   | exact LeO.none _
   | refine LeO.ite ?_ ?_
   | refine LeO.bind ?_ (fun _ => ?_)
  ·
   intro y0 y1 y2 y3 y4 y5 y6 y7 y8 y9 y10
   unfold bignat_Mul.l1
   repeat' first
   | (with_reducible exact ih0 _ _ _)
   | (with_reducible exact ih1 _ _ _ _ _)
   | (with_reducible exact ih2 _ _ _ _ _ _ _ _ _ _ _)
   | (with_reducible exact bignat_trim.mono _ _)
   | (with_reducible exact bignat_trim.mono _ _)
   | (with_reducible exact LeO.refl _)
   | (with_reducible exact LeO.none _)
   | (with_reducible refine LeO.ite ?_ ?_)
   | (with_reducible refine LeO.bind ?_ (fun _ => ?_))
   | exact ih0 _ _ _
   | exact ih1 _ _ _ _ _
   | exact ih2 _ _ _ _ _ _ _ _ _ _ _
   | exact bignat_trim.mono _ _
   | exact bignat_trim.mono _ _
   | exact LeO.none _
   | refine LeO.ite ?_ ?_
   | refine LeO.bind ?_ (fun _ => ?_)
theorem bignat_Mul.mono : ∀ a0 a1 k, LeO (bignat_Mul.f k a0 a1) (bignat_Mul.f (k + 1) a0 a1) := by
 intro a0 a1 k
 obtain ⟨ih0, ih1, ih2⟩ := bignat_Mul.mono_l k
 unfold bignat_Mul.f
 repeat' first
   | (with_reducible exact ih0 _ _ _)
   | (with_reducible exact ih1 _ _ _ _ _)
   | (with_reducible exact ih2 _ _ _ _ _ _ _ _ _ _ _)
   | (with_reducible exact bignat_trim.mono _ _)
   | (with_reducible exact bignat_trim.mono _ _)
   | (with_reducible exact LeO.refl _)
   | (with_reducible exact LeO.none _)
   | (with_reducible refine LeO.ite ?_ ?_)
   | (with_reducible refine LeO.bind ?_ (fun _ => ?_))
   | exact ih0 _ _ _
   | exact ih1 _ _ _ _ _
   | exact ih2 _ _ _ _ _ _ _ _ _ _ _
   | exact bignat_trim.mono _ _
   | exact bignat_trim.mono _ _
   | exact LeO.none _
   | refine LeO.ite ?_ ?_
   | refine LeO.bind ?_ (fun _ => ?_)
set_option maxHeartbeats 8000000 in
set_option maxRecDepth 100000 in
theorem bignat_Mul.calls (k : Nat) (A0 : Option Addr) (c0 : Nat) (l0 : List Int) (A1 : Option Addr) (c1 : Nat) (l1 : List Int) (r : List Int) (w : World) (hr0 : Kd.C (Kd.int .u32) w A0 l0.length l0) (hc0 : l0.length ≤ c0) (hr1 : Kd.C (Kd.int .u32) w A1 l1.length l1) (hc1 : l1.length ≤ c1) (h : bignat_Mul.f k l0 l1 = some r) :
  Calls Try.prog 20 #[.slice A0 l0.length c0, .slice A1 l1.length c1] w fun e w' => ∃ v0_ : Value, e = .returned (v0_) ∧ Kd.R (Kd.int .u32) 43 w' w.heap.size (fun _ => True) v0_ r ∧ Below w.heap.size w w' := by
 have HR0 := Aside0.mk hr0
 have HC0 := Aside0.mk hc0
 clear hr0 hc0
 have HR1 := Aside0.mk hr1
 have HC1 := Aside0.mk hc1
 clear hr1 hc1
 have HB := Aside0.mk (Below.refl w.heap.size w)
 have H : ((bignat_trim.f k l0).bind fun t272 => ((bignat_trim.f k l1).bind fun t275 => (if (t272.length : Int) = 0 then (bignat_Mul.j0 k t272 t275 true) else (bignat_Mul.j0 k t272 t275 ((t275.length : Int) == 0))))) = some r := h
 clear h
 replace H := Option.bind_eq_some_iff.mp H
 obtain ⟨t272, A30, H⟩ := H
 replace H : ((bignat_trim.f k l1).bind fun t275 => (if (t272.length : Int) = 0 then (bignat_Mul.j0 k t272 t275 true) else (bignat_Mul.j0 k t272 t275 ((t275.length : Int) == 0)))) = some r := H
 have A3 := Aside0.mk A30
 clear A30
 replace H := Option.bind_eq_some_iff.mp H
 obtain ⟨t275, A40, H⟩ := H
 replace H : (if (t272.length : Int) = 0 then (bignat_Mul.j0 k t272 t275 true) else (bignat_Mul.j0 k t272 t275 ((t275.length : Int) == 0))) = some r := H
 have A4 := Aside0.mk A40
 clear A40
 have HC5 := Aside0.mk H
 clear H
 go_enter Try.func20, Try.ntmps20
 go_upto_region 2 with (first | ((with_reducible refine gate_callee (f := 47) rfl ?_); refine goesL_ (some 12) rfl rfl Try.func47 (by kernel_rfl) rfl #[.slice A0 l0.length c0] rfl (by first | rfl | (go_simp; first | done | rfl | ((try simp only [IntKind.wrap_u8, IntKind.wrap_u32, IntKind.wrap_u64]); omega))) ?_; (with_reducible refine (bignat_trim.calls k (fun k_ => k_ < w.heap.size) _ _ l0 t272 _ ?side1 A3.out).mono ?_); (case side1 => exact Kd.V_mk HC0.out (Kd.F_below (Kd.C_F (Kd.heap_int .u32) HR0.out) (zb HB rfl))); rintro e w6 ⟨v273, rfl, ho0, hb⟩; refine ⟨_, rfl, ?_⟩; have n0_ := Aside0.mk (Kd.V_lower (Kd.V_mono (ok' := fun k_ => True) ho0 (fun k_ hk_ => trivial)) (below_size (zb HB rfl))); have n1_ := Aside0.mk (below_step (zb HB rfl) hb); clear HB; have HO274 := n0_; have HB := n1_; clear n0_ n1_) | ((with_reducible refine gate_callee (f := 47) rfl ?_); refine goesL_ (some 14) rfl rfl Try.func47 (by kernel_rfl) rfl #[.slice A1 l1.length c1] rfl (by first | rfl | (go_simp; first | done | rfl | ((try simp only [IntKind.wrap_u8, IntKind.wrap_u32, IntKind.wrap_u64]); omega))) ?_; (with_reducible refine (bignat_trim.calls k (fun k_ => k_ < w.heap.size) _ _ l1 t275 _ ?side1 A4.out).mono ?_); (case side1 => exact Kd.V_mk HC1.out (Kd.F_below (Kd.C_F (Kd.heap_int .u32) HR1.out) (zb HB rfl))); rintro e w7 ⟨v276, rfl, ho0, hb⟩; refine ⟨_, rfl, ?_⟩; have n0_ := Aside0.mk (Kd.V_below (zv HO274 rfl) hb); have n1_ := Aside0.mk (Kd.V_lower (Kd.V_mono (ok' := fun k_ => True) ho0 (fun k_ hk_ => trivial)) (below_size (zb HB rfl))); have n2_ := Aside0.mk (below_step (zb HB rfl) hb); clear HO274; clear HB; have HO274 := n0_; have HO277 := n1_; have HB := n2_; clear n0_ n1_ n2_))
 (try simp only [Act.put, List.setIfInBounds_toArray, List.set_cons_zero, List.set_cons_succ])
 go_cut [22] (fun v22 wc => ∃ (kq : Nat) (x22_4 : Bool), v22 = .bool x22_4 ∧ Aside0 (bignat_Mul.j0 kq t272 t275 x22_4 = some r) ∧ Aside0 (kq ≤ k) ∧ Aside0 (Kd.V (Kd.int .u32) 43 wc w.heap.size (fun _ => True) v273 t272) ∧ Aside0 (Kd.V (Kd.int .u32) 43 wc w.heap.size (fun _ => True) v276 t275) ∧ Aside0 (Below w.heap.size w wc))
 case first =>
  have H := HC5.out
  clear HC5
  by_cases c8 : (t272.length : Int) = 0
  ·
   rw [if_pos c8] at H
   have c8b0 : ((t272.length : Int) == 0) = true := beq_iff_eq.mpr c8
   have c8b1 : ((t272.length : Int) != 0) = false := bne_eq_false_iff_eq.mpr c8
   clear c8
   (first | rw [c8b0] | rw [c8b1] | (simp only [i64_w, i32_w]; rw [c8b0]) | skip)
   have H' := Aside0.mk H
   clear H
   obtain ⟨Ao9, co9, eo9⟩ := Kd.V_slice HO274.out
   subst eo9
   go_wp2
   go_meet
   case rel => exact ⟨_, (true), (by first | rfl | (simp [*]; done)), H', ⟨by first | omega | exact Nat.le_refl _⟩, ⟨by (with_reducible repeat (first | apply Kd.V_alloc | apply Kd.V_drewN | apply Kd.V_drew)); exact HO274.out⟩, ⟨by (with_reducible repeat (first | apply Kd.V_alloc | apply Kd.V_drewN | apply Kd.V_drew)); exact HO277.out⟩, ⟨by repeat (first | (with_reducible first | exact HB.out | apply below_alloc | apply pw_below_drewN | apply below_drew1) | exact HB.out)⟩⟩
  ·
   rw [if_neg c8] at H
   have c8b0 : ((t272.length : Int) == 0) = false := beq_eq_false_iff_ne.mpr c8
   have c8b1 : ((t272.length : Int) != 0) = true := bne_iff_ne.mpr c8
   have c8b2 : ¬ (t272 = []) := fun h_ => c8 (by rw [h_]; rfl)
   (first | rw [c8b0] | rw [c8b1] | (simp only [i64_w, i32_w]; rw [c8b0]) | skip)
   have H' := Aside0.mk H
   clear H
   obtain ⟨Ao10, co10, eo10⟩ := Kd.V_slice HO274.out
   subst eo10
   obtain ⟨Ao11, co11, eo11⟩ := Kd.V_slice HO277.out
   subst eo11
   go_wp2
   go_meet
   case rel => exact ⟨_, (((t275.length : Int) == 0)), (by first | rfl | (simp [*]; done)), H', ⟨by first | omega | exact Nat.le_refl _⟩, ⟨by (with_reducible repeat (first | apply Kd.V_alloc | apply Kd.V_drewN | apply Kd.V_drew)); exact HO274.out⟩, ⟨by (with_reducible repeat (first | apply Kd.V_alloc | apply Kd.V_drewN | apply Kd.V_drew)); exact HO277.out⟩, ⟨by repeat (first | (with_reducible first | exact HB.out | apply below_alloc | apply pw_below_drewN | apply below_drew1) | exact HB.out)⟩⟩
 case rest =>
  clear HC5
  try clear c1
  try clear c2
  try clear p2
  try clear c4
  try clear c8
  try clear c8b0
  try clear c8b1
  try clear c8b2
  obtain ⟨kq, x22_4, rfl, HA, HJ4, HO_0, HO_1, HB⟩ := hcut
  cases kq with
  | zero => exact absurd HA.out (by simp [bignat_Mul.j0])
  | succ kj4 =>
   have H := HA.out
   clear HA
   simp only [bignat_Mul.j0] at H
   by_cases c12 : x22_4 = true
   ·
    subst c12
    have H1 : (some ([] : List Int)) = some r := by rw [if_pos rfl] at H; exact H
    clear H
    have H := H1
    clear H1
    obtain rfl := Option.some.inj H
    go_wp2
    go_ret
    exact ⟨_, by first | rfl | (simp [*, errW_none, errW_some] <;> rfl), by first | exact Kd.R_nil _ _ _ _ _ | exact Kd.V_nil _ _ _ _ _, by repeat (first | (with_reducible first | exact HB.out | apply below_alloc | apply pw_below_drewN | apply below_drew1) | exact HB.out)⟩
   ·
    replace c12 := Bool.eq_false_iff.mpr c12
    subst c12
    have H1 : (if 0 ≤ (wrap64 ((t272.length : Int) + (t275.length : Int))) then (if (wrap64 ((t272.length : Int) + (t275.length : Int)) : Int).toNat ≤ 70368744177664 then (bignat_Mul.l0 kj4 t275 (List.replicate (wrap64 ((t272.length : Int) + (t275.length : Int)) : Int).toNat 0) t272 (t272.length : Int) 0) else (none)) else (none)) = some r := by rw [if_neg (show ¬ (false = true) by decide)] at H; exact H
    clear H
    have H := H1
    clear H1
    obtain ⟨ji13, hji13⟩ : ∃ j_ : Int, (wrap64 ((t272.length : Int) + (t275.length : Int))) = j_ := ⟨_, rfl⟩
    replace H : (if 0 ≤ (ji13) then (if (ji13 : Int).toNat ≤ 70368744177664 then (bignat_Mul.l0 kj4 t275 (List.replicate (ji13 : Int).toNat 0) t272 (t272.length : Int) 0) else (none)) else (none)) = some r := by first | (rw [hji13] at H; exact H) | (simp only [hji13] at H ⊢; exact H)
    have hji13w : (IntKind.i64.wrap ((t272.length : Int) + (t275.length : Int))) = ji13 := (i64_w _).trans hji13
    (try (have hji13r := hji13; simp only [hji11] at hji13r))
    (try (have hji13wr := hji13w; simp only [hji11] at hji13wr))
    by_cases c14 : 0 ≤ (ji13)
    ·
     rw [if_pos c14] at H
     have c14b0 := eq_true c14
     have c14b1 : decide (0 ≤ (ji13)) = true := decide_eq_true c14
     clear c14
     by_cases c15 : (ji13 : Int).toNat ≤ 70368744177664
     ·
      rw [if_pos c15] at H
      have c15b0 := eq_true c15
      have c15b1 : decide ((ji13 : Int).toNat ≤ 70368744177664) = true := decide_eq_true c15
      clear c15
      obtain ⟨y278, hy278⟩ : ∃ y_ : List Int, y_ = (List.replicate (ji13 : Int).toNat 0) := ⟨_, rfl⟩
      replace H : (bignat_Mul.l0 kj4 t275 y278 t272 (t272.length : Int) 0) = some r := by first | (rw [hy278]; with_reducible exact H) | (have H2_ := (Option.bind_some _ _).symm.trans H; rw [hy278]; with_reducible exact H2_) | (have H2_ := (Option.bind_some _ _).symm.trans H; with_reducible exact H2_) | with_reducible exact H | (rw [hy278]; exact H) | exact H
      have Ny278 := Aside0.mk hy278
      clear hy278
      have H' := Aside0.mk H
      clear H
      obtain ⟨Ao16, co16, eo16⟩ := Kd.V_slice HO_0.out
      subst eo16
      obtain ⟨Ao17, co17, eo17⟩ := Kd.V_slice HO_1.out
      subst eo17
      go_wp2_with (first | ((with_reducible refine gate_dst (N := 28) rfl ?_); (try (refine gate_guard (by rfl) ?_; dsimp only)); refine Kd.R_make (Kd.int .u32) _ 43 rfl (N := 28) rfl 23 _ _ rfl ji13 rfl rfl Try.underlying23 (.int .u32 0) 4 info43 rfl (by decide) (by omega) 0 (ok := fun _ => True) (okp := fun _ => True) rfl (fun _ hk => hk) trivial (of_decide_eq_true (by first | (with_reducible assumption) | assumption)) (Nat.le_trans (Nat.mul_le_mul_right _ (of_decide_eq_true (by first | (with_reducible assumption) | assumption) : ji13.toNat ≤ 70368744177664)) (by omega)) (Below.refl _ _) (Nat.le_refl _) ?_; intro v279 w18 ho19 hb hg_ hnew_; clear hg_ hnew_; (first | rw [← Ny278.out] at ho19 | (simp only [Int.reduceToNat] at ho19; rw [← Ny278.out] at ho19)); have n0_ := Aside0.mk (Kd.V_elder' (zv HO_0 rfl) (Kd.R_base ho19) hb); have n1_ := Aside0.mk (Kd.V_elder' (zv HO_1 rfl) (Kd.R_base ho19) hb); have n2_ := Aside0.mk (Kd.R_lower ho19 (below_size (zb HB rfl))); have n3_ := Aside0.mk (below_step (zb HB rfl) hb); clear HO_0; clear HO_1; clear HB; have HO_0 := n0_; have HO_1 := n1_; have HO280 := n2_; have HB := n3_; clear n0_ n1_ n2_ n3_; clear hb ho19))
      go_loopg [31] kj4 (fun kq v31 w' => ∃ (x5_2 : List Int) (x31_2 : Int), v31 = .int .i64 x31_2 ∧ Aside0 (bignat_Mul.l0 kq t275 x5_2 t272 (t272.length : Int) x31_2 = some r) ∧ Aside0 (kq ≤ kj4) ∧ Aside0 (Kd.V (Kd.int .u32) 43 w' w.heap.size (fun k_ => some k_ ≠ (v279 : Value).ownBlock) (.slice Ao17 t275.length co17) t275) ∧ Aside0 (Kd.R (Kd.int .u32) 43 w' w.heap.size (fun _ => True) v279 x5_2) ∧ Aside0 (Kd.V (Kd.int .u32) 43 w' w.heap.size (fun k_ => some k_ ≠ (v279 : Value).ownBlock) (.slice Ao16 t272.length co16) t272) ∧ Aside0 (Below w.heap.size w w'))
      case atStart => exact ⟨(y278), (0), (by first | rfl | (simp [*]; done)), H', ⟨Nat.le_refl _⟩, ⟨by (with_reducible repeat (first | apply Kd.V_alloc | apply Kd.V_drewN | apply Kd.V_drew)); exact Kd.V_mono HO_1.out (fun _ hk => hk.2)⟩, ⟨by (with_reducible repeat (first | apply Kd.R_alloc | apply Kd.R_drewN | apply Kd.R_drew)); exact HO280.out⟩, ⟨by (with_reducible repeat (first | apply Kd.V_alloc | apply Kd.V_drewN | apply Kd.V_drew)); exact Kd.V_mono HO_0.out (fun _ hk => hk.2)⟩, ⟨by repeat (first | (with_reducible first | exact HB.out | apply below_alloc | apply pw_below_drewN | apply below_drew1) | exact HB.out)⟩⟩
      case round =>
       clear H'
       try clear c1
       try clear c2
       try clear p2
       try clear c4
       try clear p6
       try clear c8
       try clear c8b0
       try clear c8b1
       try clear c8b2
       try clear c12
       try clear c14
       try clear c14b0
       try clear c14b1
       try clear c15
       try clear c15b0
       try clear c15b1
       try clear p2
       obtain ⟨x5_2, x31_2, rfl, HA, HK2, HO_1, HO_5, HO_29, HB⟩ := hrel
       cases gk with
       | zero => exact absurd HA.out (by simp [bignat_Mul.l0])
       | succ k2 =>
        have H := HA.out
        clear HA
        simp only [bignat_Mul.l0] at H
        by_cases c20 : x31_2 < (t272.length : Int)
        ·
         rw [if_pos c20] at H
         have c20b0 : decide (x31_2 < (t272.length : Int)) = true := decide_eq_true c20
         clear c20
         by_cases c21 : 0 ≤ x31_2
         ·
          rw [if_pos c21] at H
          have c21b0 : decide (0 ≤ x31_2) = true := decide_eq_true c21
          clear c21
          by_cases c22 : x31_2 < (t272.length : Int)
          ·
           rw [if_pos c22] at H
           have c22b0 : decide (x31_2 < (t272.length : Int)) = true := decide_eq_true c22
           clear c22
           have H' := Aside0.mk H
           clear H
           have p284 : 0 ≤ (x31_2 : Int) := of_decide_eq_true (by first | (with_reducible assumption) | assumption)
           have q284 : x31_2 < (t272.length : Int) := of_decide_eq_true (by first | (with_reducible assumption) | assumption)
           obtain ⟨ad284, e284, hx284_0⟩ := Kd.at_int (Kd.V_reads' HO_29.out).2.2 x31_2 p284 q284
           cases e284
           replace p284 := eq_true p284
           replace q284 := eq_true q284
           go_wp2
           go_loopg [8, 38] k2 (fun kq v8 v38 w' => ∃ (x5_3 : List Int) (x8_3 : Int) (x38_3 : Int), v8 = .int .u64 x8_3 ∧ v38 = .int .i64 x38_3 ∧ Aside0 (bignat_Mul.l1 kq t275 x5_3 x31_2 (rd t272 x31_2) x8_3 t272 (t272.length : Int) x31_2 t275 (t275.length : Int) x38_3 = some r) ∧ Aside0 (kq ≤ k2) ∧ Aside0 (Kd.V (Kd.int .u32) 43 w' w.heap.size (fun k_ => some k_ ≠ (v279 : Value).ownBlock) (.slice Ao17 t275.length co17) t275) ∧ Aside0 (Kd.R (Kd.int .u32) 43 w' w.heap.size (fun _ => True) v279 x5_3) ∧ Aside0 (Kd.V (Kd.int .u32) 43 w' w.heap.size (fun k_ => some k_ ≠ (v279 : Value).ownBlock) (.slice (some ad284) t272.length co16) t272) ∧ Aside0 (Kd.V (Kd.int .u32) 43 w' w.heap.size (fun k_ => some k_ ≠ (v279 : Value).ownBlock) (.slice Ao17 t275.length co17) t275) ∧ Aside0 (Below w.heap.size w w'))
           case atStart => exact ⟨(x5_2), (0), (0), (by first | rfl | (simp [*]; done)), (by first | rfl | (simp [*]; done)), H', ⟨Nat.le_refl _⟩, ⟨by (with_reducible repeat (first | apply Kd.V_alloc | apply Kd.V_drewN | apply Kd.V_drew)); exact HO_1.out⟩, ⟨by (with_reducible repeat (first | apply Kd.R_alloc | apply Kd.R_drewN | apply Kd.R_drew)); exact HO_5.out⟩, ⟨by (with_reducible repeat (first | apply Kd.V_alloc | apply Kd.V_drewN | apply Kd.V_drew)); exact HO_29.out⟩, ⟨by (with_reducible repeat (first | apply Kd.V_alloc | apply Kd.V_drewN | apply Kd.V_drew)); exact HO_1.out⟩, ⟨by repeat (first | (with_reducible first | exact HB.out | apply below_alloc | apply pw_below_drewN | apply below_drew1) | exact HB.out)⟩⟩
           case round =>
            clear H'
            try clear c1
            try clear c2
            try clear p2
            try clear q2
            try clear hx2
            try clear c4
            try clear p6
            try clear c8
            try clear c8b0
            try clear c8b1
            try clear c8b2
            try clear c12
            try clear c14
            try clear c14b0
            try clear c14b1
            try clear c15
            try clear c15b0
            try clear c15b1
            try clear c20
            try clear c20b0
            try clear c21
            try clear c21b0
            try clear c22
            try clear c22b0
            try clear hx284_0
            try clear p2
            try clear p284
            try clear p6
            try clear q284
            obtain ⟨x5_3, x8_3, x38_3, rfl, rfl, HA, HK3, HO_1, HO_5, HO_29, HO_36, HB⟩ := hrel
            cases gk with
            | zero => exact absurd HA.out (by simp [bignat_Mul.l1])
            | succ k3 =>
             have H := HA.out
             clear HA
             simp only [bignat_Mul.l1] at H
             by_cases c23 : x38_3 < (t275.length : Int)
             ·
              rw [if_pos c23] at H
              have c23b0 : decide (x38_3 < (t275.length : Int)) = true := decide_eq_true c23
              clear c23
              by_cases c24 : 0 ≤ x38_3
              ·
               rw [if_pos c24] at H
               have c24b0 : decide (0 ≤ x38_3) = true := decide_eq_true c24
               clear c24
               by_cases c25 : x38_3 < (t275.length : Int)
               ·
                rw [if_pos c25] at H
                have c25b0 : decide (x38_3 < (t275.length : Int)) = true := decide_eq_true c25
                clear c25
                obtain ⟨ji26, hji26⟩ : ∃ j_ : Int, (wrap64 (x31_2 + x38_3)) = j_ := ⟨_, rfl⟩
                replace H : (if 0 ≤ (ji26) then (if (ji26) < (x5_3.length : Int) then (bignat_Mul.l1 k3 t275 (x5_3.set ((ji26) : Int).toNat ((IntKind.u64.wrap (x8_3 + (IntKind.u64.wrap ((IntKind.u64.wrap ((IntKind.u64.wrap ((rd t272 x31_2))) * (IntKind.u64.wrap (rd t275 x38_3)))) + (IntKind.u64.wrap (rd x5_3 (ji26))))))) % 4294967296)) x31_2 (rd t272 x31_2) ((IntKind.u64.wrap (x8_3 + (IntKind.u64.wrap ((IntKind.u64.wrap ((IntKind.u64.wrap ((rd t272 x31_2))) * (IntKind.u64.wrap (rd t275 x38_3)))) + (IntKind.u64.wrap (rd x5_3 (ji26))))))) / 4294967296) t272 (t272.length : Int) x31_2 t275 (t275.length : Int) (wrap64 (x38_3 + 1))) else (none)) else (none)) = some r := by first | (rw [hji26] at H; exact H) | (simp only [hji26] at H ⊢; exact H)
                have hji26w : (IntKind.i64.wrap (x31_2 + x38_3)) = ji26 := (i64_w _).trans hji26
                (try (have hji26r := hji26; simp only [hji11, hji13] at hji26r))
                (try (have hji26wr := hji26w; simp only [hji11, hji13] at hji26wr))
                by_cases c27 : 0 ≤ (ji26)
                ·
                 rw [if_pos c27] at H
                 have c27b0 : decide (0 ≤ (ji26)) = true := decide_eq_true c27
                 clear c27
                 by_cases c28 : (ji26) < (x5_3.length : Int)
                 ·
                  rw [if_pos c28] at H
                  have c28b0 : decide ((ji26) < (x5_3.length : Int)) = true := decide_eq_true c28
                  clear c28
                  obtain ⟨y287, hy287⟩ : ∃ y_ : List Int, y_ = (x5_3.set ((ji26) : Int).toNat ((IntKind.u64.wrap (x8_3 + (IntKind.u64.wrap ((IntKind.u64.wrap ((IntKind.u64.wrap ((rd t272 x31_2))) * (IntKind.u64.wrap (rd t275 x38_3)))) + (IntKind.u64.wrap (rd x5_3 (ji26))))))) % 4294967296)) := ⟨_, rfl⟩
                  replace H : (bignat_Mul.l1 k3 t275 y287 x31_2 (rd t272 x31_2) ((IntKind.u64.wrap (x8_3 + (IntKind.u64.wrap ((IntKind.u64.wrap ((IntKind.u64.wrap ((rd t272 x31_2))) * (IntKind.u64.wrap (rd t275 x38_3)))) + (IntKind.u64.wrap (rd x5_3 (ji26))))))) / 4294967296) t272 (t272.length : Int) x31_2 t275 (t275.length : Int) (wrap64 (x38_3 + 1))) = some r := by first | (rw [hy287]; with_reducible exact H) | (have H2_ := (Option.bind_some _ _).symm.trans H; rw [hy287]; with_reducible exact H2_) | (have H2_ := (Option.bind_some _ _).symm.trans H; with_reducible exact H2_) | with_reducible exact H | (rw [hy287]; exact H) | exact H
                  have Ny287 := Aside0.mk hy287
                  clear hy287
                  have H' := Aside0.mk H
                  clear H
                  have p285 : 0 ≤ (x38_3 : Int) := of_decide_eq_true (by first | (with_reducible assumption) | assumption)
                  have q285 : x38_3 < (t275.length : Int) := of_decide_eq_true (by first | (with_reducible assumption) | assumption)
                  obtain ⟨ad285, e285, hx285_0⟩ := Kd.at_int (Kd.V_reads' HO_36.out).2.2 x38_3 p285 q285
                  cases e285
                  replace p285 := eq_true p285
                  replace q285 := eq_true q285
                  obtain ⟨Ao30, co30, eo30⟩ := Kd.R_slice HO_5.out
                  subst eo30
                  have p286 : 0 ≤ ((ji26) : Int) := of_decide_eq_true (by first | (with_reducible assumption) | assumption)
                  have q286 : (ji26) < (x5_3.length : Int) := of_decide_eq_true (by first | (with_reducible assumption) | assumption)
                  obtain ⟨ad286, e286, hx286_0⟩ := Kd.at_int (Kd.R_reads' HO_5.out).2.2 (ji26) p286 q286
                  cases e286
                  replace p286 := eq_true p286
                  replace q286 := eq_true q286
                  have p29 : 0 ≤ ((ji26) : Int) := of_decide_eq_true (by first | (with_reducible assumption) | assumption)
                  have q29 : ((ji26) : Int) < ((x5_3.length : Int) : Int) := of_decide_eq_true (by first | (with_reducible assumption) | assumption)
                  obtain ⟨go29, co29, eo29, gb29, gl29, cl29, HG29⟩ := Kd.R_form HO_5.out (by omega)
                  (first | cases eo29 | (injection eo29 with ea_ en_ ec_; (first | subst ea_ | (injection ea_ with ea_; subst ea_)); subst ec_; clear en_))
                  have GB29 := Aside0.mk gb29
                  have GG29 := Aside0.mk HG29
                  clear gb29 gl29 HG29
                  (first | simp only [add_plain] at hx286_0 | skip)
                  obtain ⟨hx29_0, hf29_0⟩ := Kd.R_celln 0 HO_5.out ((ji26) : Int) p29 q29
                  replace p29 := eq_true p29
                  replace q29 := eq_true q29
                  obtain ⟨hy31_, hz31_⟩ := Kd.R_celln 0 HO_5.out ((ji26) : Int) (of_decide_eq_true (by first | (with_reducible assumption) | assumption)) (of_decide_eq_true (by first | (with_reducible assumption) | assumption))
                  have HP31 := Kd.R_putg HO_5.out ((ji26) : Int) ((IntKind.u64.wrap (x8_3 + (IntKind.u64.wrap ((IntKind.u64.wrap ((IntKind.u64.wrap ((rd t272 x31_2))) * (IntKind.u64.wrap (rd t275 x38_3)))) + (IntKind.u64.wrap (rd x5_3 (ji26))))))) % 4294967296)
                  go_wp2_with (first | ((with_reducible refine gate_store (t := 43) (p := 64) rfl ?_); refine store_event (t := 43) (p := 64) (v := ?vo_w32) (w1 := (wr.setCell ⟨go29, ((ji26) : Int).toNat, none⟩ (.int .u32 ((IntKind.u64.wrap (x8_3 + (IntKind.u64.wrap ((IntKind.u64.wrap ((IntKind.u64.wrap ((rd t272 x31_2))) * (IntKind.u64.wrap (rd t275 x38_3)))) + (IntKind.u64.wrap (rd x5_3 (ji26))))))) % 4294967296)))) ?hg ?ho ?hn ?hr ?_; (case ho => rfl); (case hg => rfl); (case hn => rfl); (case hr => first | (go_simp; done) | (go_simp; rfl)); intro w32 hw; have hg : wr.grownBy w32 (some go29) := (by rw [hw]; exact HP31.2); have hp_ : Kd.R (Kd.int .u32) 43 w32 w.heap.size (fun _ => True) (.slice (some ⟨go29, 0, none⟩) x5_3.length co30) y287 := (by rw [hw, Ny287.out]; exact HP31.1); clear HP31; have n0_ := Aside0.mk (Kd.V_afterv (v := (.slice (some ⟨go29, 0, none⟩) x5_3.length co30)) (v1 := (.slice (some ⟨go29, 0, none⟩) x5_3.length co30)) (ok := (fun _ => True)) (by (with_reducible repeat (first | apply Kd.V_alloc | apply Kd.V_drewN | apply Kd.V_drew)); exact Kd.V_mono HO_1.out (fun _ hk => ⟨trivial, hk⟩)) hg (.inl rfl)); have n1_ := Aside0.mk (hp_); have n2_ := Aside0.mk (Kd.V_afterv (v := (.slice (some ⟨go29, 0, none⟩) x5_3.length co30)) (v1 := (.slice (some ⟨go29, 0, none⟩) x5_3.length co30)) (ok := (fun _ => True)) (by (with_reducible repeat (first | apply Kd.V_alloc | apply Kd.V_drewN | apply Kd.V_drew)); exact Kd.V_mono HO_29.out (fun _ hk => ⟨trivial, hk⟩)) hg (.inl rfl)); have n3_ := Aside0.mk (Kd.V_afterv (v := (.slice (some ⟨go29, 0, none⟩) x5_3.length co30)) (v1 := (.slice (some ⟨go29, 0, none⟩) x5_3.length co30)) (ok := (fun _ => True)) (by (with_reducible repeat (first | apply Kd.V_alloc | apply Kd.V_drewN | apply Kd.V_drew)); exact Kd.V_mono HO_36.out (fun _ hk => ⟨trivial, hk⟩)) hg (.inl rfl)); have n4_ := Aside0.mk ((by rw [hw]; exact below_set (HB.out) GB29.out : Below w.heap.size w w32)); clear HO_1; clear HO_5; clear HO_29; clear HO_36; clear HB; have HO_1 := n0_; have HO_5 := n1_; have HO_29 := n2_; have HO_36 := n3_; have HB := n4_; clear n0_ n1_ n2_ n3_ n4_; clear hg hw hp_))
                  go_roundg k3
                  case measure => have := HJ4.out; have := HK2.out; have := HK3.out; omega
                  case rel => exact ⟨(y287), ((IntKind.u64.wrap (x8_3 + (IntKind.u64.wrap ((IntKind.u64.wrap ((IntKind.u64.wrap ((rd t272 x31_2))) * (IntKind.u64.wrap (rd t275 x38_3)))) + (IntKind.u64.wrap (rd x5_3 (ji26))))))) / 4294967296), (wrap64 (x38_3 + 1)), (by first | rfl | (simp; done) | (simp only [← hji26] <;> (first | rfl | simp)) | (simp [*]; done)), (by first | rfl | (simp [*]; done)), H', ⟨by have := HJ4.out; have := HK2.out; have := HK3.out; omega⟩, ⟨by (with_reducible repeat (first | apply Kd.V_alloc | apply Kd.V_drewN | apply Kd.V_drew)); exact Kd.V_mono HO_1.out (fun _ hk => hk.2)⟩, ⟨by (with_reducible repeat (first | apply Kd.R_alloc | apply Kd.R_drewN | apply Kd.R_drew)); exact HO_5.out⟩, ⟨by (with_reducible repeat (first | apply Kd.V_alloc | apply Kd.V_drewN | apply Kd.V_drew)); exact Kd.V_mono HO_29.out (fun _ hk => hk.2)⟩, ⟨by (with_reducible repeat (first | apply Kd.V_alloc | apply Kd.V_drewN | apply Kd.V_drew)); exact Kd.V_mono HO_36.out (fun _ hk => hk.2)⟩, ⟨by repeat (first | (with_reducible first | exact HB.out | apply below_alloc | apply pw_below_drewN | apply below_drew1) | exact HB.out)⟩⟩
                 ·
                  rw [if_neg c28] at H
                  exact absurd H (by simp)
                ·
                 rw [if_neg c27] at H
                 exact absurd H (by simp)
               ·
                rw [if_neg c25] at H
                exact absurd H (by simp)
              ·
               rw [if_neg c24] at H
               exact absurd H (by simp)
             ·
              rw [if_neg c23] at H
              have c23b0 : decide (x38_3 < (t275.length : Int)) = false := decide_eq_false c23
              clear c23
              obtain ⟨ji33, hji33⟩ : ∃ j_ : Int, (wrap64 (x31_2 + (t275.length : Int))) = j_ := ⟨_, rfl⟩
              replace H : (if 0 ≤ (ji33) then (if (ji33) < (x5_3.length : Int) then (bignat_Mul.l0 k3 t275 (x5_3.set ((ji33) : Int).toNat ((x8_3) % 4294967296)) t272 (t272.length : Int) (wrap64 (x31_2 + 1))) else (none)) else (none)) = some r := by first | (rw [hji33] at H; exact H) | (simp only [hji33] at H ⊢; exact H)
              have hji33w : (IntKind.i64.wrap (x31_2 + (t275.length : Int))) = ji33 := (i64_w _).trans hji33
              (try (have hji33r := hji33; simp only [hji11, hji13] at hji33r))
              (try (have hji33wr := hji33w; simp only [hji11, hji13] at hji33wr))
              by_cases c34 : 0 ≤ (ji33)
              ·
               rw [if_pos c34] at H
               have c34b0 : decide (0 ≤ (ji33)) = true := decide_eq_true c34
               clear c34
               by_cases c35 : (ji33) < (x5_3.length : Int)
               ·
                rw [if_pos c35] at H
                have c35b0 : decide ((ji33) < (x5_3.length : Int)) = true := decide_eq_true c35
                clear c35
                obtain ⟨y288, hy288⟩ : ∃ y_ : List Int, y_ = (x5_3.set ((ji33) : Int).toNat ((x8_3) % 4294967296)) := ⟨_, rfl⟩
                replace H : (bignat_Mul.l0 k3 t275 y288 t272 (t272.length : Int) (wrap64 (x31_2 + 1))) = some r := by first | (rw [hy288]; with_reducible exact H) | (have H2_ := (Option.bind_some _ _).symm.trans H; rw [hy288]; with_reducible exact H2_) | (have H2_ := (Option.bind_some _ _).symm.trans H; with_reducible exact H2_) | with_reducible exact H | (rw [hy288]; exact H) | exact H
                have Ny288 := Aside0.mk hy288
                clear hy288
                have H' := Aside0.mk H
                clear H
                have p36 : 0 ≤ ((ji33) : Int) := of_decide_eq_true (by first | (with_reducible assumption) | assumption)
                have q36 : ((ji33) : Int) < ((x5_3.length : Int) : Int) := of_decide_eq_true (by first | (with_reducible assumption) | assumption)
                obtain ⟨go36, co36, eo36, gb36, gl36, cl36, HG36⟩ := Kd.R_form HO_5.out (by omega)
                (first | cases eo36 | (injection eo36 with ea_ en_ ec_; (first | subst ea_ | (injection ea_ with ea_; subst ea_)); subst ec_; clear en_))
                have GB36 := Aside0.mk gb36
                have GG36 := Aside0.mk HG36
                clear gb36 gl36 HG36
                obtain ⟨hx36_0, hf36_0⟩ := Kd.R_celln 0 HO_5.out ((ji33) : Int) p36 q36
                replace p36 := eq_true p36
                replace q36 := eq_true q36
                obtain ⟨hy37_, hz37_⟩ := Kd.R_celln 0 HO_5.out ((ji33) : Int) (of_decide_eq_true (by first | (with_reducible assumption) | assumption)) (of_decide_eq_true (by first | (with_reducible assumption) | assumption))
                have HP37 := Kd.R_putg HO_5.out ((ji33) : Int) ((x8_3) % 4294967296)
                go_wp2_with (first | ((with_reducible refine gate_store (t := 43) (p := 75) rfl ?_); refine store_event (t := 43) (p := 75) (v := ?vo_w38) (w1 := (wr.setCell ⟨go36, ((ji33) : Int).toNat, none⟩ (.int .u32 ((x8_3) % 4294967296)))) ?hg ?ho ?hn ?hr ?_; (case ho => rfl); (case hg => rfl); (case hn => rfl); (case hr => first | (go_simp; done) | (go_simp; rfl)); intro w38 hw; have hg : wr.grownBy w38 (some go36) := (by rw [hw]; exact HP37.2); have hp_ : Kd.R (Kd.int .u32) 43 w38 w.heap.size (fun _ => True) (.slice (some ⟨go36, 0, none⟩) x5_3.length co36) y288 := (by rw [hw, Ny288.out]; exact HP37.1); clear HP37; have n0_ := Aside0.mk (Kd.V_afterv (v := (.slice (some ⟨go36, 0, none⟩) x5_3.length co36)) (v1 := (.slice (some ⟨go36, 0, none⟩) x5_3.length co36)) (ok := (fun _ => True)) (by (with_reducible repeat (first | apply Kd.V_alloc | apply Kd.V_drewN | apply Kd.V_drew)); exact Kd.V_mono HO_1.out (fun _ hk => ⟨trivial, hk⟩)) hg (.inl rfl)); have n1_ := Aside0.mk (hp_); have n2_ := Aside0.mk (Kd.V_afterv (v := (.slice (some ⟨go36, 0, none⟩) x5_3.length co36)) (v1 := (.slice (some ⟨go36, 0, none⟩) x5_3.length co36)) (ok := (fun _ => True)) (by (with_reducible repeat (first | apply Kd.V_alloc | apply Kd.V_drewN | apply Kd.V_drew)); exact Kd.V_mono HO_29.out (fun _ hk => ⟨trivial, hk⟩)) hg (.inl rfl)); have n3_ := Aside0.mk (Kd.V_afterv (v := (.slice (some ⟨go36, 0, none⟩) x5_3.length co36)) (v1 := (.slice (some ⟨go36, 0, none⟩) x5_3.length co36)) (ok := (fun _ => True)) (by (with_reducible repeat (first | apply Kd.V_alloc | apply Kd.V_drewN | apply Kd.V_drew)); exact Kd.V_mono HO_36.out (fun _ hk => ⟨trivial, hk⟩)) hg (.inl rfl)); have n4_ := Aside0.mk ((by rw [hw]; exact below_set (HB.out) GB36.out : Below w.heap.size w w38)); clear HO_1; clear HO_5; clear HO_29; clear HO_36; clear HB; have HO_1 := n0_; have HO_5 := n1_; have HO_29 := n2_; have HO_36 := n3_; have HB := n4_; clear n0_ n1_ n2_ n3_ n4_; clear hg hw hp_))
                go_roundg k3
                case measure => have := HJ4.out; have := HK2.out; have := HK3.out; omega
                case rel => exact ⟨(y288), (wrap64 (x31_2 + 1)), (by first | rfl | (simp [*]; done)), H', ⟨by have := HJ4.out; have := HK2.out; have := HK3.out; omega⟩, ⟨by (with_reducible repeat (first | apply Kd.V_alloc | apply Kd.V_drewN | apply Kd.V_drew)); exact Kd.V_mono HO_1.out (fun _ hk => hk.2)⟩, ⟨by (with_reducible repeat (first | apply Kd.R_alloc | apply Kd.R_drewN | apply Kd.R_drew)); exact HO_5.out⟩, ⟨by (with_reducible repeat (first | apply Kd.V_alloc | apply Kd.V_drewN | apply Kd.V_drew)); exact Kd.V_mono HO_29.out (fun _ hk => hk.2)⟩, ⟨by repeat (first | (with_reducible first | exact HB.out | apply below_alloc | apply pw_below_drewN | apply below_drew1) | exact HB.out)⟩⟩
               ·
                rw [if_neg c35] at H
                exact absurd H (by simp)
              ·
               rw [if_neg c34] at H
               exact absurd H (by simp)
          ·
           rw [if_neg c22] at H
           exact absurd H (by simp)
         ·
          rw [if_neg c21] at H
          exact absurd H (by simp)
        ·
         rw [if_neg c20] at H
         have c20b0 : decide (x31_2 < (t272.length : Int)) = false := decide_eq_false c20
         clear c20
         replace H := Option.bind_eq_some_iff.mp H
         obtain ⟨t281, A390, H⟩ := H
         replace H : (some t281) = some r := H
         have A39 := Aside0.mk A390
         clear A390
         obtain rfl := Option.some.inj H
         obtain ⟨Ao40, co40, eo40⟩ := Kd.R_slice HO_5.out
         subst eo40
         go_wp2_with (first | ((with_reducible refine gate_callee (f := 47) rfl ?_); refine goesL_ (some 78) rfl rfl Try.func47 (by kernel_rfl) rfl #[.slice Ao40 x5_2.length co40] rfl (by first | rfl | (go_simp; first | done | rfl | ((try simp only [IntKind.wrap_u8, IntKind.wrap_u32, IntKind.wrap_u64]); omega))) ?_; (with_reducible refine (bignat_trimO.calls k2 (fun k_ => some k_ = (.slice Ao40 x5_2.length co40 : Value).ownBlock) (.slice Ao40 x5_2.length co40) x5_2 t281 w _ ?side1 ?side2 A39.out).mono ?_); (case side1 => repeat (first | (with_reducible first | exact HB.out | apply below_alloc | apply pw_below_drewN | apply below_drew1) | exact HB.out)); (case side2 => exact Kd.R_tight rfl HO_5.out); rintro e w41 ⟨v282, rfl, ho0, hb, hkp⟩; refine ⟨_, rfl, ?_⟩; have n0_ := Aside0.mk (Kd.V_mono (ok' := fun k_ => some k_ ≠ (v282 : Value).ownBlock) (Kd.V_keptB (HO_1.out) hkp (fun k_ hk_ hs_ => (hk_) hs_)) (fun k_ hk_ => fun e_ => Or.elim (ho0.1 k_ e_.symm) (fun hs_ => hk_.2.1 hs_) (fun hn_ => Nat.not_le.2 hk_.2.2 hn_))); have n1_ := Aside0.mk (Kd.V_mono (ok' := fun k_ => some k_ ≠ (v282 : Value).ownBlock) (Kd.V_keptB (HO_29.out) hkp (fun k_ hk_ hs_ => (hk_) hs_)) (fun k_ hk_ => fun e_ => Or.elim (ho0.1 k_ e_.symm) (fun hs_ => hk_.2.1 hs_) (fun hn_ => Nat.not_le.2 hk_.2.2 hn_))); have n2_ := Aside0.mk (Kd.R_mono (ok' := fun k_ => True) ho0 (fun k_ hk_ => trivial)); have n3_ := Aside0.mk (hb); clear HO_1; clear HO_29; clear HB; clear HO_5; have HO_1 := n0_; have HO_29 := n1_; have HO283 := n2_; have HB := n3_; clear n0_ n1_ n2_ n3_; (try clear hkp)))
         go_ret
         exact ⟨_, by first | rfl | (simp [errW_none, errW_some] <;> rfl) | (simp only [← hji13]; first | rfl | (simp [errW_none, errW_some] <;> rfl)) | (simp [*, errW_none, errW_some] <;> rfl), by (with_reducible repeat (first | apply Kd.R_alloc | apply Kd.R_drewN | apply Kd.R_drew)); exact HO283.out, by repeat (first | (with_reducible first | exact HB.out | apply below_alloc | apply pw_below_drewN | apply below_drew1) | exact HB.out)⟩
     ·
      rw [if_neg c15] at H
      exact absurd H (by simp)
    ·
     rw [if_neg c14] at H
     exact absurd H (by simp)

end Go.Proofs.Ytjiaplnpgjicgaa.Q

