/- Lemmas for the proof of one law of this seat (Qx6). -/
import Derived.Test.YtjiaplnpgjicgaaZBignatOrderQx0
import Derived.Test.YtjiaplnpgjicgaaZBignatOrderQx1
import Derived.Test.YtjiaplnpgjicgaaZBignatOrderQx5
namespace Go.Proofs.Ytjiaplnpgjicgaa.Q
open Go.RowKit Go.Proofs.YtjiaplnpgjicgaaW.PrintWords Go.Proofs.YtjiaplnpgjicgaaW.PrintLast Go.Proofs.YtjiaplnpgjicgaaW.PrintMore
attribute [local go_sem] max2_int min2_int max_two min_two max_three min_three max_four min_four   -- for this text's walks alone
set_option linter.unusedVariables false
set_option linter.unusedSimpArgs false

def credencelaw1_same.f (k : Nat) (l0 : List Int) (l1 : List Int) : Option (Bool) := (credenceref1_NatSame.f k l0 l1).bind fun t247 => (some t247)
set_option maxHeartbeats 8000000 in
set_option maxRecDepth 100000 in
theorem credencelaw1_same.calls (k : Nat) (A0 : Option Addr) (c0 : Nat) (l0 : List Int) (A1 : Option Addr) (c1 : Nat) (l1 : List Int) (r : Bool) (w : World) (hr0 : Kd.C (Kd.int .u32) w A0 l0.length l0) (hc0 : l0.length ≤ c0) (hr1 : Kd.C (Kd.int .u32) w A1 l1.length l1) (hc1 : l1.length ≤ c1) (h : credencelaw1_same.f k l0 l1 = some r) :
    Calls Try.prog 17 #[.slice A0 l0.length c0, .slice A1 l1.length c1] w fun e w' => e = .returned (.bool r) ∧ Drawn0 w w' := by
  have HR0 := Aside0.mk hr0
  have HC0 := Aside0.mk hc0
  clear hr0 hc0
  have HR1 := Aside0.mk hr1
  have HC1 := Aside0.mk hc1
  clear hr1 hc1
  have H : ((credenceref1_NatSame.f k l0 l1).bind fun t247 => (some t247)) = some r := h
  clear h
  replace H := Option.bind_eq_some_iff.mp H
  obtain ⟨t247, A30, H⟩ := H
  replace H : (some t247) = some r := H
  have A3 := Aside0.mk A30
  clear A30
  obtain rfl := Option.some.inj H
  go_enter Try.func17, Try.ntmps17
  go_wp2_with (first | ((with_reducible refine gate_callee (f := 46) rfl ?_); refine goesL_ (some 7) rfl rfl Try.func46 (by kernel_rfl) rfl #[.slice A0 l0.length c0, .slice A1 l1.length c1] rfl (by (try simp only [List.map_toArray, List.map_cons, List.map_nil]); first | done | rfl | (simp only [List.length_drop, List.length_take]; rfl) | (go_simp; done) | (go_simp; rfl) | (go_simp; (try simp only [IntKind.wrap_u8, IntKind.wrap_u32, IntKind.wrap_u64]); omega)) ?_; (with_reducible refine (credenceref1_NatSame.calls k _ _ l0 _ _ l1 t247 _ ?side1 ?side2 ?side3 ?side4 A3.out).mono ?_); (case side1 => repeat (first | exact HR0.out | (with_reducible refine Kd.C_alloc ?_ _) | (with_reducible refine Kd.C_drewN ?_ _) | (with_reducible refine Kd.C_drew ?_))); (case side2 => exact HC0.out); (case side3 => repeat (first | exact HR1.out | (with_reducible refine Kd.C_alloc ?_ _) | (with_reducible refine Kd.C_drewN ?_ _) | (with_reducible refine Kd.C_drew ?_))); (case side4 => exact HC1.out); rintro e w' ⟨rfl, ⟨nd, rfl⟩⟩; refine ⟨_, rfl, ?_⟩))
  go_ret
  exact ⟨by first | rfl | (simp; done) | (simp [*]; done), by repeat (first | exact Drawn0.refl _ | apply Drawn0.step)⟩

mutual
def bignat_Add.j0 : Nat → List Int → List Int → Option (List Int)
  | 0, _, _ => none
  | k + 1, x0, x1 => if 0 ≤ (wrap64 ((x0.length : Int) + 1)) then (if (wrap64 ((x0.length : Int) + 1) : Int).toNat ≤ 70368744177664 then (bignat_Add.l0 k x0 x1 (List.replicate (wrap64 ((x0.length : Int) + 1) : Int).toNat 0) 0 (x0.length : Int) 0) else (none)) else (none)
def bignat_Add.l0 : Nat → List Int → List Int → List Int → Int → Int → Int → Option (List Int)
  | 0, _, _, _, _, _, _ => none
  | k + 1, x0, x1, x5, x6, x24, x25 => if x25 < x24 then (if 0 ≤ x25 then (if x25 < (x0.length : Int) then (if x25 < (x1.length : Int) then (if x25 < (x5.length : Int) then (bignat_Add.l0 k x0 x1 (x5.set (x25 : Int).toNat ((IntKind.u64.wrap ((IntKind.u64.wrap (x6 + (IntKind.u64.wrap (rd x0 x25)))) + (IntKind.u64.wrap (rd x1 x25)))) % 4294967296)) ((IntKind.u64.wrap ((IntKind.u64.wrap (x6 + (IntKind.u64.wrap (rd x0 x25)))) + (IntKind.u64.wrap (rd x1 x25)))) / 4294967296) x24 (wrap64 (x25 + 1))) else (none)) else (if x25 < (x5.length : Int) then (bignat_Add.l0 k x0 x1 (x5.set (x25 : Int).toNat ((IntKind.u64.wrap (x6 + (IntKind.u64.wrap (rd x0 x25)))) % 4294967296)) ((IntKind.u64.wrap (x6 + (IntKind.u64.wrap (rd x0 x25)))) / 4294967296) x24 (wrap64 (x25 + 1))) else (none))) else (none)) else (none)) else (if 0 ≤ (x0.length : Int) then (if (x0.length : Int) < (x5.length : Int) then ((bignat_trim.f k (x5.set ((x0.length : Int) : Int).toNat ((x6) % 4294967296))).bind fun t262 => (some t262)) else (none)) else (none))
end
def bignat_Add.f (k : Nat) (l0 : List Int) (l1 : List Int) : Option (List Int) := (bignat_trim.f k l0).bind fun t248 => ((bignat_trim.f k l1).bind fun t251 => (if (t248.length : Int) < (t251.length : Int) then (bignat_Add.j0 k t251 t248) else (bignat_Add.j0 k t248 t251)))
theorem bignat_Add.mono_l : ∀ k, (∀ y0 y1, LeO (bignat_Add.j0 k y0 y1) (bignat_Add.j0 (k + 1) y0 y1)) ∧ (∀ y0 y1 y2 y3 y4 y5, LeO (bignat_Add.l0 k y0 y1 y2 y3 y4 y5) (bignat_Add.l0 (k + 1) y0 y1 y2 y3 y4 y5))
  | 0 => ⟨fun _ _ r h => by simp [bignat_Add.j0] at h, fun _ _ _ _ _ _ r h => by simp [bignat_Add.l0] at h⟩
  | k + 1 => by
    obtain ⟨ih0, ih1⟩ := bignat_Add.mono_l k
    refine ⟨?_, ?_⟩
    · intro y0 y1
      unfold bignat_Add.j0
      repeat' first
      | (with_reducible exact ih0 _ _)
      | (with_reducible exact ih1 _ _ _ _ _ _)
      | (with_reducible exact bignat_trim.mono _ _)
      | (with_reducible exact LeO.refl _)
      | (with_reducible exact LeO.none _)
      | (with_reducible refine LeO.ite ?_ ?_)
      | (with_reducible refine LeO.bind ?_ (fun _ => ?_))
      | exact ih0 _ _
      | exact ih1 _ _ _ _ _ _
      | exact bignat_trim.mono _ _
      | exact LeO.none _
      | refine LeO.ite ?_ ?_
      | refine LeO.bind ?_ (fun _ => ?_)
    · intro y0 y1 y2 y3 y4 y5
      unfold bignat_Add.l0
      repeat' first
      | (with_reducible exact ih0 _ _)
      | (with_reducible exact ih1 _ _ _ _ _ _)
      | (with_reducible exact bignat_trim.mono _ _)
      | (with_reducible exact LeO.refl _)
      | (with_reducible exact LeO.none _)
      | (with_reducible refine LeO.ite ?_ ?_)
      | (with_reducible refine LeO.bind ?_ (fun _ => ?_))
      | exact ih0 _ _
      | exact ih1 _ _ _ _ _ _
      | exact bignat_trim.mono _ _
      | exact LeO.none _
      | refine LeO.ite ?_ ?_
      | refine LeO.bind ?_ (fun _ => ?_)
theorem bignat_Add.mono : ∀ a0 a1 k, LeO (bignat_Add.f k a0 a1) (bignat_Add.f (k + 1) a0 a1) := by
  intro a0 a1 k
  obtain ⟨ih0, ih1⟩ := bignat_Add.mono_l k
  unfold bignat_Add.f
  repeat' first
      | (with_reducible exact ih0 _ _)
      | (with_reducible exact ih1 _ _ _ _ _ _)
      | (with_reducible exact bignat_trim.mono _ _)
      | (with_reducible exact LeO.refl _)
      | (with_reducible exact LeO.none _)
      | (with_reducible refine LeO.ite ?_ ?_)
      | (with_reducible refine LeO.bind ?_ (fun _ => ?_))
      | exact ih0 _ _
      | exact ih1 _ _ _ _ _ _
      | exact bignat_trim.mono _ _
      | exact LeO.none _
      | refine LeO.ite ?_ ?_
      | refine LeO.bind ?_ (fun _ => ?_)
set_option maxHeartbeats 8000000 in
set_option maxRecDepth 100000 in
theorem bignat_Add.calls (k : Nat) (P0_ : Nat → Prop) (A0 : Option Addr) (c0 : Nat) (l0 : List Int) (P1_ : Nat → Prop) (A1 : Option Addr) (c1 : Nat) (l1 : List Int) (r : List Int) (w : World) (hs0 : Kd.V (Kd.int .u32) 43 w w.heap.size (fun k_ => P0_ k_) (.slice A0 l0.length c0) l0) (hs1 : Kd.V (Kd.int .u32) 43 w w.heap.size (fun k_ => P1_ k_) (.slice A1 l1.length c1) l1) (h : bignat_Add.f k l0 l1 = some r) :
    Calls Try.prog 19 #[.slice A0 l0.length c0, .slice A1 l1.length c1] w fun e w' => ∃ v0_ : Value, e = .returned (v0_) ∧ Kd.V (Kd.int .u32) 43 w' w.heap.size (fun k_ => ((P0_ k_ ∨ P1_ k_) ∨ w.heap.size ≤ k_)) v0_ r ∧ Below w.heap.size w w' := by
  have HO0 := Aside0.mk (show Kd.V (Kd.int .u32) 43 w w.heap.size (fun k_ => ((P0_ k_ ∨ P1_ k_) ∨ w.heap.size ≤ k_)) (.slice A0 l0.length c0) l0 from Kd.V_mono hs0 (fun k_ hk => .inl (.inl hk)))
  have HO1 := Aside0.mk (show Kd.V (Kd.int .u32) 43 w w.heap.size (fun k_ => ((P0_ k_ ∨ P1_ k_) ∨ w.heap.size ≤ k_)) (.slice A1 l1.length c1) l1 from Kd.V_mono hs1 (fun k_ hk => .inl (.inr hk)))
  have HB := Aside0.mk (Below.refl w.heap.size w)
  have H : ((bignat_trim.f k l0).bind fun t248 => ((bignat_trim.f k l1).bind fun t251 => (if (t248.length : Int) < (t251.length : Int) then (bignat_Add.j0 k t251 t248) else (bignat_Add.j0 k t248 t251)))) = some r := h
  clear h
  replace H := Option.bind_eq_some_iff.mp H
  obtain ⟨t248, A30, H⟩ := H
  replace H : ((bignat_trim.f k l1).bind fun t251 => (if (t248.length : Int) < (t251.length : Int) then (bignat_Add.j0 k t251 t248) else (bignat_Add.j0 k t248 t251))) = some r := H
  have A3 := Aside0.mk A30
  clear A30
  replace H := Option.bind_eq_some_iff.mp H
  obtain ⟨t251, A40, H⟩ := H
  replace H : (if (t248.length : Int) < (t251.length : Int) then (bignat_Add.j0 k t251 t248) else (bignat_Add.j0 k t248 t251)) = some r := H
  have A4 := Aside0.mk A40
  clear A40
  have HC5 := Aside0.mk H
  clear H
  go_enter Try.func19, Try.ntmps19
  go_upto_if 16 with (first | ((with_reducible refine gate_callee (f := 47) rfl ?_); refine goesL_ (some 9) rfl rfl Try.func47 (by kernel_rfl) rfl #[.slice A0 l0.length c0] rfl (by (try simp only [List.map_toArray, List.map_cons, List.map_nil]); first | done | rfl | (simp only [List.length_drop, List.length_take]; rfl) | (go_simp; done) | (go_simp; rfl) | (go_simp; (try simp only [IntKind.wrap_u8, IntKind.wrap_u32, IntKind.wrap_u64]); omega)) ?_; (with_reducible refine (bignat_trim.calls k (fun k_ => ((P0_ k_ ∨ P1_ k_) ∨ w.heap.size ≤ k_)) _ _ l0 t248 _ ?side1 A3.out).mono ?_); (case side1 => exact HO0.out); rintro e w6 ⟨v249, rfl, ho0, hb⟩; refine ⟨_, rfl, ?_⟩; have n0_ := Aside0.mk (Kd.V_below (by (with_reducible repeat (first | apply Kd.V_alloc | apply Kd.V_drewN | apply Kd.V_drew)); exact HO0.out) hb); have n1_ := Aside0.mk (Kd.V_below (by (with_reducible repeat (first | apply Kd.V_alloc | apply Kd.V_drewN | apply Kd.V_drew)); exact HO1.out) hb); have n2_ := Aside0.mk (Kd.V_lower (Kd.V_mono (ok' := fun k_ => ((P0_ k_ ∨ P1_ k_) ∨ w.heap.size ≤ k_)) ho0 (fun k_ hk_ => Or.elim hk_ (fun hs_ => hs_) (fun hn_ => (.inr (Nat.le_trans (below_size (by repeat (first | (with_reducible first | exact HB.out | apply below_alloc | apply pw_below_drewN | apply below_drew1) | exact HB.out))) hn_))))) (below_size (by repeat (first | (with_reducible first | exact HB.out | apply below_alloc | apply pw_below_drewN | apply below_drew1) | exact HB.out)))); have n3_ := Aside0.mk (below_step (by repeat (first | (with_reducible first | exact HB.out | apply below_alloc | apply pw_below_drewN | apply below_drew1) | exact HB.out)) hb); clear HO0; clear HO1; clear HB; have HO0 := n0_; have HO1 := n1_; have HO250 := n2_; have HB := n3_; clear n0_ n1_ n2_ n3_; (try clear hb); (try clear hb2); (try clear hk); (try clear hi); (try clear ho0)) | ((with_reducible refine gate_callee (f := 47) rfl ?_); refine goesL_ (some 11) rfl rfl Try.func47 (by kernel_rfl) rfl #[.slice A1 l1.length c1] rfl (by (try simp only [List.map_toArray, List.map_cons, List.map_nil]); first | done | rfl | (simp only [List.length_drop, List.length_take]; rfl) | (go_simp; done) | (go_simp; rfl) | (go_simp; (try simp only [IntKind.wrap_u8, IntKind.wrap_u32, IntKind.wrap_u64]); omega)) ?_; (with_reducible refine (bignat_trim.calls k (fun k_ => ((P0_ k_ ∨ P1_ k_) ∨ w.heap.size ≤ k_)) _ _ l1 t251 _ ?side1 A4.out).mono ?_); (case side1 => exact HO1.out); rintro e w7 ⟨v252, rfl, ho0, hb⟩; refine ⟨_, rfl, ?_⟩; have n0_ := Aside0.mk (Kd.V_below (by (with_reducible repeat (first | apply Kd.V_alloc | apply Kd.V_drewN | apply Kd.V_drew)); exact HO0.out) hb); have n1_ := Aside0.mk (Kd.V_below (by (with_reducible repeat (first | apply Kd.V_alloc | apply Kd.V_drewN | apply Kd.V_drew)); exact HO1.out) hb); have n2_ := Aside0.mk (Kd.V_below (by (with_reducible repeat (first | apply Kd.V_alloc | apply Kd.V_drewN | apply Kd.V_drew)); exact HO250.out) hb); have n3_ := Aside0.mk (Kd.V_lower (Kd.V_mono (ok' := fun k_ => ((P0_ k_ ∨ P1_ k_) ∨ w.heap.size ≤ k_)) ho0 (fun k_ hk_ => Or.elim hk_ (fun hs_ => hs_) (fun hn_ => (.inr (Nat.le_trans (below_size (by repeat (first | (with_reducible first | exact HB.out | apply below_alloc | apply pw_below_drewN | apply below_drew1) | exact HB.out))) hn_))))) (below_size (by repeat (first | (with_reducible first | exact HB.out | apply below_alloc | apply pw_below_drewN | apply below_drew1) | exact HB.out)))); have n4_ := Aside0.mk (below_step (by repeat (first | (with_reducible first | exact HB.out | apply below_alloc | apply pw_below_drewN | apply below_drew1) | exact HB.out)) hb); clear HO0; clear HO1; clear HO250; clear HB; have HO0 := n0_; have HO1 := n1_; have HO250 := n2_; have HO253 := n3_; have HB := n4_; clear n0_ n1_ n2_ n3_ n4_; (try clear hb); (try clear hb2); (try clear hk); (try clear hi); (try clear ho0); obtain ⟨Ao8, co8, eo8⟩ := Kd.V_slice HO250.out; subst eo8; obtain ⟨Ao9, co9, eo9⟩ := Kd.V_slice HO253.out; subst eo9))
  (try simp only [Act.put, List.setIfInBounds_toArray, List.set_cons_zero, List.set_cons_succ])
  go_cut [0, 1] (fun v0 v1 wc => ∃ (kq : Nat) (x0_4 : List Int) (x1_4 : List Int), Aside0 (bignat_Add.j0 kq x0_4 x1_4 = some r) ∧ Aside0 (kq ≤ k) ∧ Aside0 (Kd.V (Kd.int .u32) 43 wc w.heap.size (fun k_ => ((P0_ k_ ∨ P1_ k_) ∨ w.heap.size ≤ k_)) v0 x0_4) ∧ Aside0 (Kd.V (Kd.int .u32) 43 wc w.heap.size (fun k_ => ((P0_ k_ ∨ P1_ k_) ∨ w.heap.size ≤ k_)) v1 x1_4) ∧ Aside0 (Below w.heap.size w wc))
  case first =>
    have H := HC5.out
    clear HC5
    by_cases c10 : (t248.length : Int) < (t251.length : Int)
    · rw [if_pos c10] at H
      have c10b0 : decide ((t248.length : Int) < (t251.length : Int)) = true := decide_eq_true c10
      have c10b1 : decide (t248.length < t251.length) = true := decide_eq_true (Int.ofNat_lt.mp c10)
      clear c10
      (first | rw [c10b0] | rw [c10b1] | (simp only [i64_w, i32_w]; rw [c10b0]) | skip)
      have H' := Aside0.mk H
      clear H
      go_wp2
      go_meet
      case rel => exact ⟨_, (t251), (t248), H', ⟨by first | omega | exact Nat.le_refl _⟩, ⟨by (with_reducible repeat (first | apply Kd.V_alloc | apply Kd.V_drewN | apply Kd.V_drew)); exact HO253.out⟩, ⟨by (with_reducible repeat (first | apply Kd.V_alloc | apply Kd.V_drewN | apply Kd.V_drew)); exact HO250.out⟩, ⟨by repeat (first | (with_reducible first | exact HB.out | apply below_alloc | apply pw_below_drewN | apply below_drew1) | exact HB.out)⟩⟩
    · rw [if_neg c10] at H
      have c10b0 : decide ((t248.length : Int) < (t251.length : Int)) = false := decide_eq_false c10
      have c10b1 : decide (t248.length < t251.length) = false := decide_eq_false (fun h => c10 (Int.ofNat_lt.mpr h))
      clear c10
      (first | rw [c10b0] | rw [c10b1] | (simp only [i64_w, i32_w]; rw [c10b0]) | skip)
      have H' := Aside0.mk H
      clear H
      go_wp2
      go_meet
      case rel => exact ⟨_, (t248), (t251), H', ⟨by first | omega | exact Nat.le_refl _⟩, ⟨by (with_reducible repeat (first | apply Kd.V_alloc | apply Kd.V_drewN | apply Kd.V_drew)); exact HO250.out⟩, ⟨by (with_reducible repeat (first | apply Kd.V_alloc | apply Kd.V_drewN | apply Kd.V_drew)); exact HO253.out⟩, ⟨by repeat (first | (with_reducible first | exact HB.out | apply below_alloc | apply pw_below_drewN | apply below_drew1) | exact HB.out)⟩⟩
  case rest =>
    clear HC5
    try clear c1
    try clear p2
    try clear c4
    try clear c10
    try clear c10b0
    try clear c10b1
    obtain ⟨kq, x0_4, x1_4, HA, HJ4, HO_0, HO_1, HB⟩ := hcut
    cases kq with
    | zero => exact absurd HA.out (by simp [bignat_Add.j0])
    | succ kj4 =>
      have H := HA.out
      clear HA
      simp only [bignat_Add.j0] at H
      obtain ⟨ji11, hji11⟩ : ∃ j_ : Int, (wrap64 ((x0_4.length : Int) + 1)) = j_ := ⟨_, rfl⟩
      replace H : (if 0 ≤ (ji11) then (if (ji11 : Int).toNat ≤ 70368744177664 then (bignat_Add.l0 kj4 x0_4 x1_4 (List.replicate (ji11 : Int).toNat 0) 0 (x0_4.length : Int) 0) else (none)) else (none)) = some r := by first | (rw [hji11] at H; exact H) | (simp only [hji11] at H ⊢; exact H)
      have hji11w : (IntKind.i64.wrap ((x0_4.length : Int) + 1)) = ji11 := (i64_w _).trans hji11
      by_cases c12 : 0 ≤ (ji11)
      · rw [if_pos c12] at H
        have c12b0 := eq_true c12
        have c12b1 : decide (0 ≤ (ji11)) = true := decide_eq_true c12
        clear c12
        by_cases c13 : (ji11 : Int).toNat ≤ 70368744177664
        · rw [if_pos c13] at H
          have c13b0 := eq_true c13
          have c13b1 : decide ((ji11 : Int).toNat ≤ 70368744177664) = true := decide_eq_true c13
          clear c13
          obtain ⟨y254, hy254⟩ : ∃ y_ : List Int, y_ = (List.replicate (ji11 : Int).toNat 0) := ⟨_, rfl⟩
          replace H : (bignat_Add.l0 kj4 x0_4 x1_4 y254 0 (x0_4.length : Int) 0) = some r := by first | (rw [hy254]; with_reducible exact H) | (have H2_ := (Option.bind_some _ _).symm.trans H; rw [hy254]; with_reducible exact H2_) | (have H2_ := (Option.bind_some _ _).symm.trans H; with_reducible exact H2_) | with_reducible exact H | (rw [hy254]; exact H) | exact H
          have Ny254 := Aside0.mk hy254
          clear hy254
          have H' := Aside0.mk H
          clear H
          obtain ⟨Ao14, co14, eo14⟩ := Kd.V_slice HO_0.out
          subst eo14
          go_wp2_with (first | ((with_reducible refine gate_dst (N := 22) rfl ?_); refine Kd.R_make (Kd.int .u32) _ 43 rfl (N := 22) rfl 23 _ _ rfl ji11 rfl rfl Try.underlying23 (.int .u32 0) 4 info43 rfl (by decide) (by omega) 0 (ok := fun _ => True) (okp := fun _ => True) rfl (fun _ hk => hk) trivial (of_decide_eq_true (by first | (with_reducible assumption) | assumption)) (Nat.le_trans (Nat.mul_le_mul_right _ (of_decide_eq_true (by first | (with_reducible assumption) | assumption) : ji11.toNat ≤ 70368744177664)) (by omega)) (Below.refl _ _) (Nat.le_refl _) ?_; intro v255 w15 ho16 hb hg_ hnew_; clear hg_ hnew_; (first | rw [← Ny254.out] at ho16 | (simp only [Int.reduceToNat] at ho16; rw [← Ny254.out] at ho16)); have n0_ := Aside0.mk (Kd.V_elder' (by (with_reducible repeat (first | apply Kd.V_alloc | apply Kd.V_drewN | apply Kd.V_drew)); exact HO_0.out) (Kd.R_base ho16) hb); have n1_ := Aside0.mk (Kd.V_elder' (by (with_reducible repeat (first | apply Kd.V_alloc | apply Kd.V_drewN | apply Kd.V_drew)); exact HO_1.out) (Kd.R_base ho16) hb); have n2_ := Aside0.mk (Kd.R_lower (Kd.R_newM (M := fun k_ => (w.heap.size ≤ k_)) ho16 (below_size (by repeat (first | (with_reducible first | exact HB.out | apply below_alloc | apply pw_below_drewN | apply below_drew1) | exact HB.out))) (fun k_ h_ => h_)) (below_size (by repeat (first | (with_reducible first | exact HB.out | apply below_alloc | apply pw_below_drewN | apply below_drew1) | exact HB.out)))); have n3_ := Aside0.mk (below_step (by repeat (first | (with_reducible first | exact HB.out | apply below_alloc | apply pw_below_drewN | apply below_drew1) | exact HB.out)) hb); clear HO_0; clear HO_1; clear HB; have HO_0 := n0_; have HO_1 := n1_; have HO256 := n2_; have HB := n3_; clear n0_ n1_ n2_ n3_; clear hb ho16))
          go_loopg [6, 25] kj4 (fun kq v6 v25 w' => ∃ (x5_2 : List Int) (x6_2 : Int) (x25_2 : Int), v6 = .int .u64 x6_2 ∧ v25 = .int .i64 x25_2 ∧ Aside0 (bignat_Add.l0 kq x0_4 x1_4 x5_2 x6_2 (x0_4.length : Int) x25_2 = some r) ∧ Aside0 (kq ≤ kj4) ∧ Aside0 (Kd.V (Kd.int .u32) 43 w' w.heap.size (fun k_ => ((P0_ k_ ∨ P1_ k_) ∨ w.heap.size ≤ k_) ∧ some k_ ≠ (v255 : Value).ownBlock) (.slice Ao14 x0_4.length co14) x0_4) ∧ Aside0 (Kd.V (Kd.int .u32) 43 w' w.heap.size (fun k_ => ((P0_ k_ ∨ P1_ k_) ∨ w.heap.size ≤ k_) ∧ some k_ ≠ (v255 : Value).ownBlock) u1 x1_4) ∧ Aside0 (Kd.R (Kd.int .u32) 43 w' w.heap.size (fun k_ => (w.heap.size ≤ k_)) v255 x5_2) ∧ Aside0 (Below w.heap.size w w'))
          case atStart => exact ⟨(y254), (0), (0), (by first | rfl | (simp; done) | (simp [*]; done)), (by first | rfl | (simp; done) | (simp [*]; done)), H', ⟨Nat.le_refl _⟩, ⟨by (with_reducible repeat (first | apply Kd.V_alloc | apply Kd.V_drewN | apply Kd.V_drew)); exact HO_0.out⟩, ⟨by (with_reducible repeat (first | apply Kd.V_alloc | apply Kd.V_drewN | apply Kd.V_drew)); exact HO_1.out⟩, ⟨by (with_reducible repeat (first | apply Kd.R_alloc | apply Kd.R_drewN | apply Kd.R_drew)); exact Kd.R_mono HO256.out (fun _ hk => hk.1)⟩, ⟨by repeat (first | (with_reducible first | exact HB.out | apply below_alloc | apply pw_below_drewN | apply below_drew1) | exact HB.out)⟩⟩
          case round =>
            clear H'
            try clear c1
            try clear p2
            try clear c4
            try clear p6
            try clear c10
            try clear c10b0
            try clear c10b1
            try clear c12
            try clear c12b0
            try clear c12b1
            try clear c13
            try clear c13b0
            try clear c13b1
            try clear p2
            obtain ⟨x5_2, x6_2, x25_2, rfl, rfl, HA, HK2, HO_0, HO_1, HO_5, HB⟩ := hrel
            cases gk with
            | zero => exact absurd HA.out (by simp [bignat_Add.l0])
            | succ k2 =>
              have H := HA.out
              clear HA
              simp only [bignat_Add.l0] at H
              by_cases c17 : x25_2 < (x0_4.length : Int)
              · rw [if_pos c17] at H
                have c17b0 : decide (x25_2 < (x0_4.length : Int)) = true := decide_eq_true c17
                clear c17
                by_cases c18 : 0 ≤ x25_2
                · rw [if_pos c18] at H
                  have c18b0 : decide (0 ≤ x25_2) = true := decide_eq_true c18
                  clear c18
                  by_cases c19 : x25_2 < (x0_4.length : Int)
                  · rw [if_pos c19] at H
                    have c19b0 : decide (x25_2 < (x0_4.length : Int)) = true := decide_eq_true c19
                    clear c19
                    by_cases c20 : x25_2 < (x1_4.length : Int)
                    · rw [if_pos c20] at H
                      have c20b0 : decide (x25_2 < (x1_4.length : Int)) = true := decide_eq_true c20
                      clear c20
                      by_cases c21 : x25_2 < (x5_2.length : Int)
                      · rw [if_pos c21] at H
                        have c21b0 : decide (x25_2 < (x5_2.length : Int)) = true := decide_eq_true c21
                        clear c21
                        obtain ⟨y259, hy259⟩ : ∃ y_ : List Int, y_ = (x5_2.set (x25_2 : Int).toNat ((IntKind.u64.wrap ((IntKind.u64.wrap (x6_2 + (IntKind.u64.wrap (rd x0_4 x25_2)))) + (IntKind.u64.wrap (rd x1_4 x25_2)))) % 4294967296)) := ⟨_, rfl⟩
                        replace H : (bignat_Add.l0 k2 x0_4 x1_4 y259 ((IntKind.u64.wrap ((IntKind.u64.wrap (x6_2 + (IntKind.u64.wrap (rd x0_4 x25_2)))) + (IntKind.u64.wrap (rd x1_4 x25_2)))) / 4294967296) (x0_4.length : Int) (wrap64 (x25_2 + 1))) = some r := by first | (rw [hy259]; with_reducible exact H) | (have H2_ := (Option.bind_some _ _).symm.trans H; rw [hy259]; with_reducible exact H2_) | (have H2_ := (Option.bind_some _ _).symm.trans H; with_reducible exact H2_) | with_reducible exact H | (rw [hy259]; exact H) | exact H
                        have Ny259 := Aside0.mk hy259
                        clear hy259
                        have H' := Aside0.mk H
                        clear H
                        have p257 : 0 ≤ (x25_2 : Int) := of_decide_eq_true (by first | (with_reducible assumption) | assumption)
                        have q257 : x25_2 < (x0_4.length : Int) := of_decide_eq_true (by first | (with_reducible assumption) | assumption)
                        obtain ⟨ad257, e257, hx257_0⟩ := Kd.at_int (Kd.V_reads' HO_0.out).2.2 x25_2 p257 q257
                        cases e257
                        replace p257 := eq_true p257
                        replace q257 := eq_true q257
                        obtain ⟨Ao23, co23, eo23⟩ := Kd.V_slice HO_1.out
                        subst eo23
                        have p258 : 0 ≤ (x25_2 : Int) := of_decide_eq_true (by first | (with_reducible assumption) | assumption)
                        have q258 : x25_2 < (x1_4.length : Int) := of_decide_eq_true (by first | (with_reducible assumption) | assumption)
                        obtain ⟨ad258, e258, hx258_0⟩ := Kd.at_int (Kd.V_reads' HO_1.out).2.2 x25_2 p258 q258
                        cases e258
                        replace p258 := eq_true p258
                        replace q258 := eq_true q258
                        have p22 : 0 ≤ (x25_2 : Int) := of_decide_eq_true (by first | (with_reducible assumption) | assumption)
                        have q22 : (x25_2 : Int) < ((x5_2.length : Int) : Int) := of_decide_eq_true (by first | (with_reducible assumption) | assumption)
                        obtain ⟨go22, co22, eo22, gb22, gl22, cl22, HG22⟩ := Kd.R_form HO_5.out (by omega)
                        (first | cases eo22 | (injection eo22 with ea_ en_ ec_; (first | subst ea_ | (injection ea_ with ea_; subst ea_)); subst ec_; clear en_))
                        have GB22 := Aside0.mk gb22
                        have GG22 := Aside0.mk HG22
                        clear gb22 gl22 HG22
                        obtain ⟨hx22_0, hf22_0⟩ := Kd.R_celln 0 HO_5.out (x25_2 : Int) p22 q22
                        replace p22 := eq_true p22
                        replace q22 := eq_true q22
                        obtain ⟨hy24_, hz24_⟩ := Kd.R_celln 0 HO_5.out (x25_2 : Int) (of_decide_eq_true (by first | (with_reducible assumption) | assumption)) (of_decide_eq_true (by first | (with_reducible assumption) | assumption))
                        have HP24 := Kd.R_putg HO_5.out (x25_2 : Int) ((IntKind.u64.wrap ((IntKind.u64.wrap (x6_2 + (IntKind.u64.wrap (rd x0_4 x25_2)))) + (IntKind.u64.wrap (rd x1_4 x25_2)))) % 4294967296)
                        go_wp2_with (first | ((with_reducible refine gate_store (t := 43) (p := 50) rfl ?_); refine store_event (t := 43) (p := 50) (v := ?vo_w25) (w1 := (wr.setCell ⟨go22, (x25_2 : Int).toNat, none⟩ (.int .u32 ((IntKind.u64.wrap ((IntKind.u64.wrap (x6_2 + (IntKind.u64.wrap (rd x0_4 x25_2)))) + (IntKind.u64.wrap (rd x1_4 x25_2)))) % 4294967296)))) ?hg ?ho ?hn ?hr ?_; (case ho => rfl); (case hg => rfl); (case hn => rfl); (case hr => first | (go_simp; done) | (go_simp; rfl)); intro w25 hw; have hg : wr.grownBy w25 (some go22) := (by rw [hw]; exact HP24.2); have hp_ : Kd.R (Kd.int .u32) 43 w25 w.heap.size (fun k_ => (w.heap.size ≤ k_)) (.slice (some ⟨go22, 0, none⟩) x5_2.length co22) y259 := (by rw [hw, Ny259.out]; exact HP24.1); clear HP24; have n0_ := Aside0.mk (Kd.V_afterv (v := (.slice (some ⟨go22, 0, none⟩) x5_2.length co22)) (v1 := (.slice (some ⟨go22, 0, none⟩) x5_2.length co22)) (ok := (fun k_ => ((P0_ k_ ∨ P1_ k_) ∨ w.heap.size ≤ k_))) (by (with_reducible repeat (first | apply Kd.V_alloc | apply Kd.V_drewN | apply Kd.V_drew)); exact HO_0.out) hg (.inl rfl)); have n1_ := Aside0.mk (Kd.V_afterv (v := (.slice (some ⟨go22, 0, none⟩) x5_2.length co22)) (v1 := (.slice (some ⟨go22, 0, none⟩) x5_2.length co22)) (ok := (fun k_ => ((P0_ k_ ∨ P1_ k_) ∨ w.heap.size ≤ k_))) (by (with_reducible repeat (first | apply Kd.V_alloc | apply Kd.V_drewN | apply Kd.V_drew)); exact HO_1.out) hg (.inl rfl)); have n2_ := Aside0.mk (hp_); have n3_ := Aside0.mk ((by rw [hw]; exact below_set (HB.out) GB22.out : Below w.heap.size w w25)); clear HO_0; clear HO_1; clear HO_5; clear HB; have HO_0 := n0_; have HO_1 := n1_; have HO_5 := n2_; have HB := n3_; clear n0_ n1_ n2_ n3_; clear hg hw hp_))
                        go_roundg k2
                        case measure => have := HJ4.out; have := HK2.out; omega
                        case rel => exact ⟨(y259), ((IntKind.u64.wrap ((IntKind.u64.wrap (x6_2 + (IntKind.u64.wrap (rd x0_4 x25_2)))) + (IntKind.u64.wrap (rd x1_4 x25_2)))) / 4294967296), (wrap64 (x25_2 + 1)), (by first | rfl | (simp; done) | (simp [*]; done)), (by first | rfl | (simp; done) | (simp [*]; done)), H', ⟨by have := HJ4.out; have := HK2.out; omega⟩, ⟨by (with_reducible repeat (first | apply Kd.V_alloc | apply Kd.V_drewN | apply Kd.V_drew)); exact HO_0.out⟩, ⟨by (with_reducible repeat (first | apply Kd.V_alloc | apply Kd.V_drewN | apply Kd.V_drew)); exact HO_1.out⟩, ⟨by (with_reducible repeat (first | apply Kd.R_alloc | apply Kd.R_drewN | apply Kd.R_drew)); exact HO_5.out⟩, ⟨by repeat (first | (with_reducible first | exact HB.out | apply below_alloc | apply pw_below_drewN | apply below_drew1) | exact HB.out)⟩⟩
                      · rw [if_neg c21] at H
                        exact absurd H (by simp)
                    · rw [if_neg c20] at H
                      have c20b0 : decide (x25_2 < (x1_4.length : Int)) = false := decide_eq_false c20
                      clear c20
                      by_cases c26 : x25_2 < (x5_2.length : Int)
                      · rw [if_pos c26] at H
                        have c26b0 : decide (x25_2 < (x5_2.length : Int)) = true := decide_eq_true c26
                        clear c26
                        obtain ⟨y260, hy260⟩ : ∃ y_ : List Int, y_ = (x5_2.set (x25_2 : Int).toNat ((IntKind.u64.wrap (x6_2 + (IntKind.u64.wrap (rd x0_4 x25_2)))) % 4294967296)) := ⟨_, rfl⟩
                        replace H : (bignat_Add.l0 k2 x0_4 x1_4 y260 ((IntKind.u64.wrap (x6_2 + (IntKind.u64.wrap (rd x0_4 x25_2)))) / 4294967296) (x0_4.length : Int) (wrap64 (x25_2 + 1))) = some r := by first | (rw [hy260]; with_reducible exact H) | (have H2_ := (Option.bind_some _ _).symm.trans H; rw [hy260]; with_reducible exact H2_) | (have H2_ := (Option.bind_some _ _).symm.trans H; with_reducible exact H2_) | with_reducible exact H | (rw [hy260]; exact H) | exact H
                        have Ny260 := Aside0.mk hy260
                        clear hy260
                        have H' := Aside0.mk H
                        clear H
                        have p257 : 0 ≤ (x25_2 : Int) := of_decide_eq_true (by first | (with_reducible assumption) | assumption)
                        have q257 : x25_2 < (x0_4.length : Int) := of_decide_eq_true (by first | (with_reducible assumption) | assumption)
                        obtain ⟨ad257, e257, hx257_0⟩ := Kd.at_int (Kd.V_reads' HO_0.out).2.2 x25_2 p257 q257
                        cases e257
                        replace p257 := eq_true p257
                        replace q257 := eq_true q257
                        obtain ⟨Ao28, co28, eo28⟩ := Kd.V_slice HO_1.out
                        subst eo28
                        have p27 : 0 ≤ (x25_2 : Int) := of_decide_eq_true (by first | (with_reducible assumption) | assumption)
                        have q27 : (x25_2 : Int) < ((x5_2.length : Int) : Int) := of_decide_eq_true (by first | (with_reducible assumption) | assumption)
                        obtain ⟨go27, co27, eo27, gb27, gl27, cl27, HG27⟩ := Kd.R_form HO_5.out (by omega)
                        (first | cases eo27 | (injection eo27 with ea_ en_ ec_; (first | subst ea_ | (injection ea_ with ea_; subst ea_)); subst ec_; clear en_))
                        have GB27 := Aside0.mk gb27
                        have GG27 := Aside0.mk HG27
                        clear gb27 gl27 HG27
                        obtain ⟨hx27_0, hf27_0⟩ := Kd.R_celln 0 HO_5.out (x25_2 : Int) p27 q27
                        replace p27 := eq_true p27
                        replace q27 := eq_true q27
                        obtain ⟨hy29_, hz29_⟩ := Kd.R_celln 0 HO_5.out (x25_2 : Int) (of_decide_eq_true (by first | (with_reducible assumption) | assumption)) (of_decide_eq_true (by first | (with_reducible assumption) | assumption))
                        have HP29 := Kd.R_putg HO_5.out (x25_2 : Int) ((IntKind.u64.wrap (x6_2 + (IntKind.u64.wrap (rd x0_4 x25_2)))) % 4294967296)
                        go_wp2_with (first | ((with_reducible refine gate_store (t := 43) (p := 50) rfl ?_); refine store_event (t := 43) (p := 50) (v := ?vo_w30) (w1 := (wr.setCell ⟨go27, (x25_2 : Int).toNat, none⟩ (.int .u32 ((IntKind.u64.wrap (x6_2 + (IntKind.u64.wrap (rd x0_4 x25_2)))) % 4294967296)))) ?hg ?ho ?hn ?hr ?_; (case ho => rfl); (case hg => rfl); (case hn => rfl); (case hr => first | (go_simp; done) | (go_simp; rfl)); intro w30 hw; have hg : wr.grownBy w30 (some go27) := (by rw [hw]; exact HP29.2); have hp_ : Kd.R (Kd.int .u32) 43 w30 w.heap.size (fun k_ => (w.heap.size ≤ k_)) (.slice (some ⟨go27, 0, none⟩) x5_2.length co27) y260 := (by rw [hw, Ny260.out]; exact HP29.1); clear HP29; have n0_ := Aside0.mk (Kd.V_afterv (v := (.slice (some ⟨go27, 0, none⟩) x5_2.length co27)) (v1 := (.slice (some ⟨go27, 0, none⟩) x5_2.length co27)) (ok := (fun k_ => ((P0_ k_ ∨ P1_ k_) ∨ w.heap.size ≤ k_))) (by (with_reducible repeat (first | apply Kd.V_alloc | apply Kd.V_drewN | apply Kd.V_drew)); exact HO_0.out) hg (.inl rfl)); have n1_ := Aside0.mk (Kd.V_afterv (v := (.slice (some ⟨go27, 0, none⟩) x5_2.length co27)) (v1 := (.slice (some ⟨go27, 0, none⟩) x5_2.length co27)) (ok := (fun k_ => ((P0_ k_ ∨ P1_ k_) ∨ w.heap.size ≤ k_))) (by (with_reducible repeat (first | apply Kd.V_alloc | apply Kd.V_drewN | apply Kd.V_drew)); exact HO_1.out) hg (.inl rfl)); have n2_ := Aside0.mk (hp_); have n3_ := Aside0.mk ((by rw [hw]; exact below_set (HB.out) GB27.out : Below w.heap.size w w30)); clear HO_0; clear HO_1; clear HO_5; clear HB; have HO_0 := n0_; have HO_1 := n1_; have HO_5 := n2_; have HB := n3_; clear n0_ n1_ n2_ n3_; clear hg hw hp_))
                        go_roundg k2
                        case measure => have := HJ4.out; have := HK2.out; omega
                        case rel => exact ⟨(y260), ((IntKind.u64.wrap (x6_2 + (IntKind.u64.wrap (rd x0_4 x25_2)))) / 4294967296), (wrap64 (x25_2 + 1)), (by first | rfl | (simp; done) | (simp [*]; done)), (by first | rfl | (simp; done) | (simp [*]; done)), H', ⟨by have := HJ4.out; have := HK2.out; omega⟩, ⟨by (with_reducible repeat (first | apply Kd.V_alloc | apply Kd.V_drewN | apply Kd.V_drew)); exact HO_0.out⟩, ⟨by (with_reducible repeat (first | apply Kd.V_alloc | apply Kd.V_drewN | apply Kd.V_drew)); exact HO_1.out⟩, ⟨by (with_reducible repeat (first | apply Kd.R_alloc | apply Kd.R_drewN | apply Kd.R_drew)); exact HO_5.out⟩, ⟨by repeat (first | (with_reducible first | exact HB.out | apply below_alloc | apply pw_below_drewN | apply below_drew1) | exact HB.out)⟩⟩
                      · rw [if_neg c26] at H
                        exact absurd H (by simp)
                  · rw [if_neg c19] at H
                    exact absurd H (by simp)
                · rw [if_neg c18] at H
                  exact absurd H (by simp)
              · rw [if_neg c17] at H
                have c17b0 : decide (x25_2 < (x0_4.length : Int)) = false := decide_eq_false c17
                clear c17
                by_cases c31 : 0 ≤ (x0_4.length : Int)
                · rw [if_pos c31] at H
                  have c31b0 : decide (0 ≤ (x0_4.length : Int)) = true := decide_eq_true c31
                  have c31b1 : decide (0 ≤ x0_4.length) = true := decide_eq_true (by omega)
                  clear c31
                  by_cases c32 : (x0_4.length : Int) < (x5_2.length : Int)
                  · rw [if_pos c32] at H
                    have c32b0 : decide ((x0_4.length : Int) < (x5_2.length : Int)) = true := decide_eq_true c32
                    have c32b1 : decide (x0_4.length < x5_2.length) = true := decide_eq_true (Int.ofNat_lt.mp c32)
                    clear c32
                    obtain ⟨y261, hy261⟩ : ∃ y_ : List Int, y_ = (x5_2.set ((x0_4.length : Int) : Int).toNat ((x6_2) % 4294967296)) := ⟨_, rfl⟩
                    replace H : ((bignat_trim.f k2 y261).bind fun t262 => (some t262)) = some r := by first | (rw [hy261]; with_reducible exact H) | (have H2_ := (Option.bind_some _ _).symm.trans H; rw [hy261]; with_reducible exact H2_) | (have H2_ := (Option.bind_some _ _).symm.trans H; with_reducible exact H2_) | with_reducible exact H | (rw [hy261]; exact H) | exact H
                    have Ny261 := Aside0.mk hy261
                    clear hy261
                    replace H := Option.bind_eq_some_iff.mp H
                    obtain ⟨t262, A340, H⟩ := H
                    replace H : (some t262) = some r := H
                    have A34 := Aside0.mk A340
                    clear A340
                    obtain rfl := Option.some.inj H
                    have p33 : 0 ≤ ((x0_4.length : Int) : Int) := of_decide_eq_true (by first | (with_reducible assumption) | assumption)
                    have q33 : ((x0_4.length : Int) : Int) < ((x5_2.length : Int) : Int) := of_decide_eq_true (by first | (with_reducible assumption) | assumption)
                    obtain ⟨go33, co33, eo33, gb33, gl33, cl33, HG33⟩ := Kd.R_form HO_5.out (by omega)
                    (first | cases eo33 | (injection eo33 with ea_ en_ ec_; (first | subst ea_ | (injection ea_ with ea_; subst ea_)); subst ec_; clear en_))
                    have GB33 := Aside0.mk gb33
                    have GG33 := Aside0.mk HG33
                    clear gb33 gl33 HG33
                    obtain ⟨hx33_0, hf33_0⟩ := Kd.R_celln 0 HO_5.out ((x0_4.length : Int) : Int) p33 q33
                    replace p33 := eq_true p33
                    replace q33 := eq_true q33
                    obtain ⟨hy35_, hz35_⟩ := Kd.R_celln 0 HO_5.out ((x0_4.length : Int) : Int) (of_decide_eq_true (by first | (with_reducible assumption) | assumption)) (of_decide_eq_true (by first | (with_reducible assumption) | assumption))
                    (try simp only [Go.IntWalk.toNatUp] at hy35_ hz35_)
                    have HP35 := Kd.R_putg HO_5.out ((x0_4.length : Int) : Int) ((x6_2) % 4294967296)
                    go_wp2_with (first | ((with_reducible refine gate_store (t := 43) (p := 59) rfl ?_); refine store_event (t := 43) (p := 59) (v := ?vo_w36) (w1 := (wr.setCell ⟨go33, ((x0_4.length : Int) : Int).toNat, none⟩ (.int .u32 ((x6_2) % 4294967296)))) ?hg ?ho ?hn ?hr ?_; (case ho => rfl); (case hg => rfl); (case hn => rfl); (case hr => first | (go_simp; done) | (go_simp; rfl)); intro w36 hw; have hg : wr.grownBy w36 (some go33) := (by rw [hw]; exact HP35.2); have hp_ : Kd.R (Kd.int .u32) 43 w36 w.heap.size (fun k_ => (w.heap.size ≤ k_)) (.slice (some ⟨go33, 0, none⟩) x5_2.length co33) y261 := (by rw [hw, Ny261.out]; exact HP35.1); clear HP35; have n0_ := Aside0.mk (Kd.V_afterv (v := (.slice (some ⟨go33, 0, none⟩) x5_2.length co33)) (v1 := (.slice (some ⟨go33, 0, none⟩) x5_2.length co33)) (ok := (fun k_ => ((P0_ k_ ∨ P1_ k_) ∨ w.heap.size ≤ k_))) (by (with_reducible repeat (first | apply Kd.V_alloc | apply Kd.V_drewN | apply Kd.V_drew)); exact HO_0.out) hg (.inl rfl)); have n1_ := Aside0.mk (Kd.V_afterv (v := (.slice (some ⟨go33, 0, none⟩) x5_2.length co33)) (v1 := (.slice (some ⟨go33, 0, none⟩) x5_2.length co33)) (ok := (fun k_ => ((P0_ k_ ∨ P1_ k_) ∨ w.heap.size ≤ k_))) (by (with_reducible repeat (first | apply Kd.V_alloc | apply Kd.V_drewN | apply Kd.V_drew)); exact HO_1.out) hg (.inl rfl)); have n2_ := Aside0.mk (hp_); have n3_ := Aside0.mk ((by rw [hw]; exact below_set (HB.out) GB33.out : Below w.heap.size w w36)); clear HO_0; clear HO_1; clear HO_5; clear HB; have HO_0 := n0_; have HO_1 := n1_; have HO_5 := n2_; have HB := n3_; clear n0_ n1_ n2_ n3_; clear hg hw hp_) | ((with_reducible refine gate_callee (f := 47) rfl ?_); refine goesL_ (some 61) rfl rfl Try.func47 (by kernel_rfl) rfl #[.slice (some ⟨go33, 0, none⟩) y261.length co33] rfl (by (try simp only [List.map_toArray, List.map_cons, List.map_nil]); first | done | (rw [show y261.length = x5_2.length from (Kd.R_reads' HO_5.out).1.symm] <;> rfl) | rfl | (simp only [List.length_drop, List.length_take]; rfl) | (go_simp; done) | (go_simp; rfl) | (go_simp; (try simp only [IntKind.wrap_u8, IntKind.wrap_u32, IntKind.wrap_u64]); omega)) ?_; (with_reducible refine (bignat_trim.calls k2 (fun k_ => some k_ = (.slice (some ⟨go33, 0, none⟩) x5_2.length co33 : Value).ownBlock) _ _ y261 t262 _ ?side1 A34.out).mono ?_); (case side1 => rw [show y261.length = x5_2.length from (Kd.R_reads' HO_5.out).1.symm]; exact Kd.R_V (Kd.R_tight rfl (HO_5.out))); rintro e w37 ⟨v263, rfl, ho0, hb⟩; refine ⟨_, rfl, ?_⟩; have n0_ := Aside0.mk (Kd.V_below (by (with_reducible repeat (first | apply Kd.V_alloc | apply Kd.V_drewN | apply Kd.V_drew)); exact HO_0.out) hb); have n1_ := Aside0.mk (Kd.V_below (by (with_reducible repeat (first | apply Kd.V_alloc | apply Kd.V_drewN | apply Kd.V_drew)); exact HO_1.out) hb); have n2_ := Aside0.mk (Kd.R_below (by (with_reducible repeat (first | apply Kd.R_alloc | apply Kd.R_drewN | apply Kd.R_drew)); exact HO_5.out) hb); have n3_ := Aside0.mk (Kd.V_lower (Kd.V_mono (ok' := fun k_ => ((P0_ k_ ∨ P1_ k_) ∨ w.heap.size ≤ k_)) ho0 (fun k_ hk_ => Or.elim hk_ (fun hs_ => (.inr (((HO_5.out).1 k_ hs_.symm)))) (fun hn_ => (.inr (Nat.le_trans (below_size (by repeat (first | (with_reducible first | exact HB.out | apply below_alloc | apply pw_below_drewN | apply below_drew1) | exact HB.out))) hn_))))) (below_size (by repeat (first | (with_reducible first | exact HB.out | apply below_alloc | apply pw_below_drewN | apply below_drew1) | exact HB.out)))); have n4_ := Aside0.mk (below_step (by repeat (first | (with_reducible first | exact HB.out | apply below_alloc | apply pw_below_drewN | apply below_drew1) | exact HB.out)) hb); clear HO_0; clear HO_1; clear HO_5; clear HB; have HO_0 := n0_; have HO_1 := n1_; have HO_5 := n2_; have HO264 := n3_; have HB := n4_; clear n0_ n1_ n2_ n3_ n4_; (try clear hb); (try clear hb2); (try clear hk); (try clear hi); (try clear ho0)))
                    go_ret
                    exact ⟨_, by first | rfl | (simp [errW_none, errW_some] <;> rfl) | (simp only [← hji11]; first | rfl | (simp [errW_none, errW_some] <;> rfl)) | (simp [*, errW_none, errW_some] <;> rfl), by (with_reducible repeat (first | apply Kd.V_alloc | apply Kd.V_drewN | apply Kd.V_drew)); exact HO264.out, by repeat (first | (with_reducible first | exact HB.out | apply below_alloc | apply pw_below_drewN | apply below_drew1) | exact HB.out)⟩
                  · rw [if_neg c32] at H
                    exact absurd H (by simp)
                · rw [if_neg c31] at H
                  exact absurd H (by simp)
        · rw [if_neg c13] at H
          exact absurd H (by simp)
      · rw [if_neg c12] at H
        exact absurd H (by simp)

mutual
def bignat_Mul.j0 : Nat → List Int → List Int → Bool → Option (List Int)
  | 0, _, _, _ => none
  | k + 1, x0, x1, x22 => if x22 = true then (some ([] : List Int)) else (if 0 ≤ (wrap64 ((x0.length : Int) + (x1.length : Int))) then (if (wrap64 ((x0.length : Int) + (x1.length : Int)) : Int).toNat ≤ 70368744177664 then (bignat_Mul.l0 k x1 (List.replicate (wrap64 ((x0.length : Int) + (x1.length : Int)) : Int).toNat 0) x0 (x0.length : Int) 0) else (none)) else (none))
def bignat_Mul.l0 : Nat → List Int → List Int → List Int → Int → Int → Option (List Int)
  | 0, _, _, _, _, _ => none
  | k + 1, x1, x5, x29, x30, x31 => if x31 < x30 then (if 0 ≤ x31 then (if x31 < (x29.length : Int) then (bignat_Mul.l1 k x1 x5 x31 (rd x29 x31) 0 x29 x30 x31 x1 (x1.length : Int) 0) else (none)) else (none)) else ((bignat_trim.f k x5).bind fun t274 => (some t274))
def bignat_Mul.l1 : Nat → List Int → List Int → Int → Int → Int → List Int → Int → Int → List Int → Int → Int → Option (List Int)
  | 0, _, _, _, _, _, _, _, _, _, _, _ => none
  | k + 1, x1, x5, x6, x7, x8, x29, x30, x31, x36, x37, x38 => if x38 < x37 then (if 0 ≤ x38 then (if x38 < (x36.length : Int) then (if 0 ≤ (wrap64 (x6 + x38)) then (if (wrap64 (x6 + x38)) < (x5.length : Int) then (bignat_Mul.l1 k x1 (x5.set ((wrap64 (x6 + x38)) : Int).toNat ((IntKind.u64.wrap (x8 + (IntKind.u64.wrap ((IntKind.u64.wrap ((IntKind.u64.wrap (x7)) * (IntKind.u64.wrap (rd x36 x38)))) + (IntKind.u64.wrap (rd x5 (wrap64 (x6 + x38)))))))) % 4294967296)) x6 x7 ((IntKind.u64.wrap (x8 + (IntKind.u64.wrap ((IntKind.u64.wrap ((IntKind.u64.wrap (x7)) * (IntKind.u64.wrap (rd x36 x38)))) + (IntKind.u64.wrap (rd x5 (wrap64 (x6 + x38)))))))) / 4294967296) x29 x30 x31 x36 x37 (wrap64 (x38 + 1))) else (none)) else (none)) else (none)) else (none)) else (if 0 ≤ (wrap64 (x6 + (x1.length : Int))) then (if (wrap64 (x6 + (x1.length : Int))) < (x5.length : Int) then (bignat_Mul.l0 k x1 (x5.set ((wrap64 (x6 + (x1.length : Int))) : Int).toNat ((x8) % 4294967296)) x29 x30 (wrap64 (x31 + 1))) else (none)) else (none))
end
def bignat_Mul.f (k : Nat) (l0 : List Int) (l1 : List Int) : Option (List Int) := (bignat_trim.f k l0).bind fun t265 => ((bignat_trim.f k l1).bind fun t268 => (if (t265.length : Int) = 0 then (bignat_Mul.j0 k t265 t268 true) else (bignat_Mul.j0 k t265 t268 ((t268.length : Int) == 0))))
theorem bignat_Mul.mono_l : ∀ k, (∀ y0 y1 y2, LeO (bignat_Mul.j0 k y0 y1 y2) (bignat_Mul.j0 (k + 1) y0 y1 y2)) ∧ (∀ y0 y1 y2 y3 y4, LeO (bignat_Mul.l0 k y0 y1 y2 y3 y4) (bignat_Mul.l0 (k + 1) y0 y1 y2 y3 y4)) ∧ (∀ y0 y1 y2 y3 y4 y5 y6 y7 y8 y9 y10, LeO (bignat_Mul.l1 k y0 y1 y2 y3 y4 y5 y6 y7 y8 y9 y10) (bignat_Mul.l1 (k + 1) y0 y1 y2 y3 y4 y5 y6 y7 y8 y9 y10))
  | 0 => ⟨fun _ _ _ r h => by simp [bignat_Mul.j0] at h, fun _ _ _ _ _ r h => by simp [bignat_Mul.l0] at h, fun _ _ _ _ _ _ _ _ _ _ _ r h => by simp [bignat_Mul.l1] at h⟩
  | k + 1 => by
    obtain ⟨ih0, ih1, ih2⟩ := bignat_Mul.mono_l k
    refine ⟨?_, ?_, ?_⟩
    · intro y0 y1 y2
      unfold bignat_Mul.j0
      repeat' first
      | (with_reducible exact ih0 _ _ _)
      | (with_reducible exact ih1 _ _ _ _ _)
      | (with_reducible exact ih2 _ _ _ _ _ _ _ _ _ _ _)
      | (with_reducible exact bignat_trim.mono _ _)
      | (with_reducible exact LeO.refl _)
      | (with_reducible exact LeO.none _)
      | (with_reducible refine LeO.ite ?_ ?_)
      | (with_reducible refine LeO.bind ?_ (fun _ => ?_))
      | exact ih0 _ _ _
      | exact ih1 _ _ _ _ _
      | exact ih2 _ _ _ _ _ _ _ _ _ _ _
      | exact bignat_trim.mono _ _
      | exact LeO.none _
      | refine LeO.ite ?_ ?_
      | refine LeO.bind ?_ (fun _ => ?_)
    · intro y0 y1 y2 y3 y4
      unfold bignat_Mul.l0
      repeat' first
      | (with_reducible exact ih0 _ _ _)
      | (with_reducible exact ih1 _ _ _ _ _)
      | (with_reducible exact ih2 _ _ _ _ _ _ _ _ _ _ _)
      | (with_reducible exact bignat_trim.mono _ _)
      | (with_reducible exact LeO.refl _)
      | (with_reducible exact LeO.none _)
      | (with_reducible refine LeO.ite ?_ ?_)
      | (with_reducible refine LeO.bind ?_ (fun _ => ?_))
      | exact ih0 _ _ _
      | exact ih1 _ _ _ _ _
      | exact ih2 _ _ _ _ _ _ _ _ _ _ _
      | exact bignat_trim.mono _ _
      | exact LeO.none _
      | refine LeO.ite ?_ ?_
      | refine LeO.bind ?_ (fun _ => ?_)
    · intro y0 y1 y2 y3 y4 y5 y6 y7 y8 y9 y10
      unfold bignat_Mul.l1
      repeat' first
      | (with_reducible exact ih0 _ _ _)
      | (with_reducible exact ih1 _ _ _ _ _)
      | (with_reducible exact ih2 _ _ _ _ _ _ _ _ _ _ _)
      | (with_reducible exact bignat_trim.mono _ _)
      | (with_reducible exact LeO.refl _)
      | (with_reducible exact LeO.none _)
      | (with_reducible refine LeO.ite ?_ ?_)
      | (with_reducible refine LeO.bind ?_ (fun _ => ?_))
      | exact ih0 _ _ _
      | exact ih1 _ _ _ _ _
      | exact ih2 _ _ _ _ _ _ _ _ _ _ _
      | exact bignat_trim.mono _ _
      | exact LeO.none _
      | refine LeO.ite ?_ ?_
      | refine LeO.bind ?_ (fun _ => ?_)
theorem bignat_Mul.mono : ∀ a0 a1 k, LeO (bignat_Mul.f k a0 a1) (bignat_Mul.f (k + 1) a0 a1) := by
  intro a0 a1 k
  obtain ⟨ih0, ih1, ih2⟩ := bignat_Mul.mono_l k
  unfold bignat_Mul.f
  repeat' first
      | (with_reducible exact ih0 _ _ _)
      | (with_reducible exact ih1 _ _ _ _ _)
      | (with_reducible exact ih2 _ _ _ _ _ _ _ _ _ _ _)
      | (with_reducible exact bignat_trim.mono _ _)
      | (with_reducible exact LeO.refl _)
      | (with_reducible exact LeO.none _)
      | (with_reducible refine LeO.ite ?_ ?_)
      | (with_reducible refine LeO.bind ?_ (fun _ => ?_))
      | exact ih0 _ _ _
      | exact ih1 _ _ _ _ _
      | exact ih2 _ _ _ _ _ _ _ _ _ _ _
      | exact bignat_trim.mono _ _
      | exact LeO.none _
      | refine LeO.ite ?_ ?_
      | refine LeO.bind ?_ (fun _ => ?_)
set_option maxHeartbeats 8000000 in
set_option maxRecDepth 100000 in
theorem bignat_Mul.calls (k : Nat) (P0_ : Nat → Prop) (A0 : Option Addr) (c0 : Nat) (l0 : List Int) (P1_ : Nat → Prop) (A1 : Option Addr) (c1 : Nat) (l1 : List Int) (r : List Int) (w : World) (hs0 : Kd.V (Kd.int .u32) 43 w w.heap.size (fun k_ => P0_ k_) (.slice A0 l0.length c0) l0) (hs1 : Kd.V (Kd.int .u32) 43 w w.heap.size (fun k_ => P1_ k_) (.slice A1 l1.length c1) l1) (h : bignat_Mul.f k l0 l1 = some r) :
    Calls Try.prog 20 #[.slice A0 l0.length c0, .slice A1 l1.length c1] w fun e w' => ∃ v0_ : Value, e = .returned (v0_) ∧ Kd.V (Kd.int .u32) 43 w' w.heap.size (fun k_ => ((P0_ k_ ∨ P1_ k_) ∨ w.heap.size ≤ k_)) v0_ r ∧ Below w.heap.size w w' := by
  have HO0 := Aside0.mk (show Kd.V (Kd.int .u32) 43 w w.heap.size (fun k_ => ((P0_ k_ ∨ P1_ k_) ∨ w.heap.size ≤ k_)) (.slice A0 l0.length c0) l0 from Kd.V_mono hs0 (fun k_ hk => .inl (.inl hk)))
  have HO1 := Aside0.mk (show Kd.V (Kd.int .u32) 43 w w.heap.size (fun k_ => ((P0_ k_ ∨ P1_ k_) ∨ w.heap.size ≤ k_)) (.slice A1 l1.length c1) l1 from Kd.V_mono hs1 (fun k_ hk => .inl (.inr hk)))
  have HB := Aside0.mk (Below.refl w.heap.size w)
  have H : ((bignat_trim.f k l0).bind fun t265 => ((bignat_trim.f k l1).bind fun t268 => (if (t265.length : Int) = 0 then (bignat_Mul.j0 k t265 t268 true) else (bignat_Mul.j0 k t265 t268 ((t268.length : Int) == 0))))) = some r := h
  clear h
  replace H := Option.bind_eq_some_iff.mp H
  obtain ⟨t265, A30, H⟩ := H
  replace H : ((bignat_trim.f k l1).bind fun t268 => (if (t265.length : Int) = 0 then (bignat_Mul.j0 k t265 t268 true) else (bignat_Mul.j0 k t265 t268 ((t268.length : Int) == 0)))) = some r := H
  have A3 := Aside0.mk A30
  clear A30
  replace H := Option.bind_eq_some_iff.mp H
  obtain ⟨t268, A40, H⟩ := H
  replace H : (if (t265.length : Int) = 0 then (bignat_Mul.j0 k t265 t268 true) else (bignat_Mul.j0 k t265 t268 ((t268.length : Int) == 0))) = some r := H
  have A4 := Aside0.mk A40
  clear A40
  have HC5 := Aside0.mk H
  clear H
  go_enter Try.func20, Try.ntmps20
  go_upto_region 2 with (first | ((with_reducible refine gate_callee (f := 47) rfl ?_); refine goesL_ (some 12) rfl rfl Try.func47 (by kernel_rfl) rfl #[.slice A0 l0.length c0] rfl (by (try simp only [List.map_toArray, List.map_cons, List.map_nil]); first | done | rfl | (simp only [List.length_drop, List.length_take]; rfl) | (go_simp; done) | (go_simp; rfl) | (go_simp; (try simp only [IntKind.wrap_u8, IntKind.wrap_u32, IntKind.wrap_u64]); omega)) ?_; (with_reducible refine (bignat_trim.calls k (fun k_ => ((P0_ k_ ∨ P1_ k_) ∨ w.heap.size ≤ k_)) _ _ l0 t265 _ ?side1 A3.out).mono ?_); (case side1 => exact HO0.out); rintro e w6 ⟨v266, rfl, ho0, hb⟩; refine ⟨_, rfl, ?_⟩; have n0_ := Aside0.mk (Kd.V_below (by (with_reducible repeat (first | apply Kd.V_alloc | apply Kd.V_drewN | apply Kd.V_drew)); exact HO0.out) hb); have n1_ := Aside0.mk (Kd.V_below (by (with_reducible repeat (first | apply Kd.V_alloc | apply Kd.V_drewN | apply Kd.V_drew)); exact HO1.out) hb); have n2_ := Aside0.mk (Kd.V_lower (Kd.V_mono (ok' := fun k_ => ((P0_ k_ ∨ P1_ k_) ∨ w.heap.size ≤ k_)) ho0 (fun k_ hk_ => Or.elim hk_ (fun hs_ => hs_) (fun hn_ => (.inr (Nat.le_trans (below_size (by repeat (first | (with_reducible first | exact HB.out | apply below_alloc | apply pw_below_drewN | apply below_drew1) | exact HB.out))) hn_))))) (below_size (by repeat (first | (with_reducible first | exact HB.out | apply below_alloc | apply pw_below_drewN | apply below_drew1) | exact HB.out)))); have n3_ := Aside0.mk (below_step (by repeat (first | (with_reducible first | exact HB.out | apply below_alloc | apply pw_below_drewN | apply below_drew1) | exact HB.out)) hb); clear HO0; clear HO1; clear HB; have HO0 := n0_; have HO1 := n1_; have HO267 := n2_; have HB := n3_; clear n0_ n1_ n2_ n3_; (try clear hb); (try clear hb2); (try clear hk); (try clear hi); (try clear ho0)) | ((with_reducible refine gate_callee (f := 47) rfl ?_); refine goesL_ (some 14) rfl rfl Try.func47 (by kernel_rfl) rfl #[.slice A1 l1.length c1] rfl (by (try simp only [List.map_toArray, List.map_cons, List.map_nil]); first | done | rfl | (simp only [List.length_drop, List.length_take]; rfl) | (go_simp; done) | (go_simp; rfl) | (go_simp; (try simp only [IntKind.wrap_u8, IntKind.wrap_u32, IntKind.wrap_u64]); omega)) ?_; (with_reducible refine (bignat_trim.calls k (fun k_ => ((P0_ k_ ∨ P1_ k_) ∨ w.heap.size ≤ k_)) _ _ l1 t268 _ ?side1 A4.out).mono ?_); (case side1 => exact HO1.out); rintro e w7 ⟨v269, rfl, ho0, hb⟩; refine ⟨_, rfl, ?_⟩; have n0_ := Aside0.mk (Kd.V_below (by (with_reducible repeat (first | apply Kd.V_alloc | apply Kd.V_drewN | apply Kd.V_drew)); exact HO0.out) hb); have n1_ := Aside0.mk (Kd.V_below (by (with_reducible repeat (first | apply Kd.V_alloc | apply Kd.V_drewN | apply Kd.V_drew)); exact HO1.out) hb); have n2_ := Aside0.mk (Kd.V_below (by (with_reducible repeat (first | apply Kd.V_alloc | apply Kd.V_drewN | apply Kd.V_drew)); exact HO267.out) hb); have n3_ := Aside0.mk (Kd.V_lower (Kd.V_mono (ok' := fun k_ => ((P0_ k_ ∨ P1_ k_) ∨ w.heap.size ≤ k_)) ho0 (fun k_ hk_ => Or.elim hk_ (fun hs_ => hs_) (fun hn_ => (.inr (Nat.le_trans (below_size (by repeat (first | (with_reducible first | exact HB.out | apply below_alloc | apply pw_below_drewN | apply below_drew1) | exact HB.out))) hn_))))) (below_size (by repeat (first | (with_reducible first | exact HB.out | apply below_alloc | apply pw_below_drewN | apply below_drew1) | exact HB.out)))); have n4_ := Aside0.mk (below_step (by repeat (first | (with_reducible first | exact HB.out | apply below_alloc | apply pw_below_drewN | apply below_drew1) | exact HB.out)) hb); clear HO0; clear HO1; clear HO267; clear HB; have HO0 := n0_; have HO1 := n1_; have HO267 := n2_; have HO270 := n3_; have HB := n4_; clear n0_ n1_ n2_ n3_ n4_; (try clear hb); (try clear hb2); (try clear hk); (try clear hi); (try clear ho0)))
  (try simp only [Act.put, List.setIfInBounds_toArray, List.set_cons_zero, List.set_cons_succ])
  go_cut [22] (fun v22 wc => ∃ (kq : Nat) (x22_4 : Bool), v22 = .bool x22_4 ∧ Aside0 (bignat_Mul.j0 kq t265 t268 x22_4 = some r) ∧ Aside0 (kq ≤ k) ∧ Aside0 (Kd.V (Kd.int .u32) 43 wc w.heap.size (fun k_ => ((P0_ k_ ∨ P1_ k_) ∨ w.heap.size ≤ k_)) v266 t265) ∧ Aside0 (Kd.V (Kd.int .u32) 43 wc w.heap.size (fun k_ => ((P0_ k_ ∨ P1_ k_) ∨ w.heap.size ≤ k_)) v269 t268) ∧ Aside0 (Below w.heap.size w wc))
  case first =>
    have H := HC5.out
    clear HC5
    by_cases c8 : (t265.length : Int) = 0
    · rw [if_pos c8] at H
      have c8b0 : ((t265.length : Int) == 0) = true := beq_iff_eq.mpr c8
      have c8b1 : ((t265.length : Int) != 0) = false := bne_eq_false_iff_eq.mpr c8
      clear c8
      (first | rw [c8b0] | rw [c8b1] | (simp only [i64_w, i32_w]; rw [c8b0]) | skip)
      have H' := Aside0.mk H
      clear H
      obtain ⟨Ao9, co9, eo9⟩ := Kd.V_slice HO267.out
      subst eo9
      go_wp2
      go_meet
      case rel => exact ⟨_, (true), (by first | rfl | (simp; done) | (simp [*]; done)), H', ⟨by first | omega | exact Nat.le_refl _⟩, ⟨by (with_reducible repeat (first | apply Kd.V_alloc | apply Kd.V_drewN | apply Kd.V_drew)); exact HO267.out⟩, ⟨by (with_reducible repeat (first | apply Kd.V_alloc | apply Kd.V_drewN | apply Kd.V_drew)); exact HO270.out⟩, ⟨by repeat (first | (with_reducible first | exact HB.out | apply below_alloc | apply pw_below_drewN | apply below_drew1) | exact HB.out)⟩⟩
    · rw [if_neg c8] at H
      have c8b0 : ((t265.length : Int) == 0) = false := beq_eq_false_iff_ne.mpr c8
      have c8b1 : ((t265.length : Int) != 0) = true := bne_iff_ne.mpr c8
      have c8b2 : ¬ (t265 = []) := fun h_ => c8 (by rw [h_]; rfl)
      (first | rw [c8b0] | rw [c8b1] | (simp only [i64_w, i32_w]; rw [c8b0]) | skip)
      have H' := Aside0.mk H
      clear H
      obtain ⟨Ao10, co10, eo10⟩ := Kd.V_slice HO267.out
      subst eo10
      obtain ⟨Ao11, co11, eo11⟩ := Kd.V_slice HO270.out
      subst eo11
      go_wp2
      go_meet
      case rel => exact ⟨_, (((t268.length : Int) == 0)), (by first | rfl | (simp; done) | (simp [*]; done)), H', ⟨by first | omega | exact Nat.le_refl _⟩, ⟨by (with_reducible repeat (first | apply Kd.V_alloc | apply Kd.V_drewN | apply Kd.V_drew)); exact HO267.out⟩, ⟨by (with_reducible repeat (first | apply Kd.V_alloc | apply Kd.V_drewN | apply Kd.V_drew)); exact HO270.out⟩, ⟨by repeat (first | (with_reducible first | exact HB.out | apply below_alloc | apply pw_below_drewN | apply below_drew1) | exact HB.out)⟩⟩
  case rest =>
    clear HC5
    try clear c1
    try clear c2
    try clear p2
    try clear c4
    try clear c8
    try clear c8b0
    try clear c8b1
    try clear c8b2
    obtain ⟨kq, x22_4, rfl, HA, HJ4, HO_0, HO_1, HB⟩ := hcut
    cases kq with
    | zero => exact absurd HA.out (by simp [bignat_Mul.j0])
    | succ kj4 =>
      have H := HA.out
      clear HA
      simp only [bignat_Mul.j0] at H
      by_cases c12 : x22_4 = true
      · subst c12
        have H1 : (some ([] : List Int)) = some r := by rw [if_pos rfl] at H; exact H
        clear H
        have H := H1
        clear H1
        obtain rfl := Option.some.inj H
        go_wp2
        go_ret
        exact ⟨_, by first | rfl | (simp [errW_none, errW_some] <;> rfl) | (simp [*, errW_none, errW_some] <;> rfl), Kd.V_nil _ _ _ _ _, by repeat (first | (with_reducible first | exact HB.out | apply below_alloc | apply pw_below_drewN | apply below_drew1) | exact HB.out)⟩
      · replace c12 := Bool.eq_false_iff.mpr c12
        subst c12
        have H1 : (if 0 ≤ (wrap64 ((t265.length : Int) + (t268.length : Int))) then (if (wrap64 ((t265.length : Int) + (t268.length : Int)) : Int).toNat ≤ 70368744177664 then (bignat_Mul.l0 kj4 t268 (List.replicate (wrap64 ((t265.length : Int) + (t268.length : Int)) : Int).toNat 0) t265 (t265.length : Int) 0) else (none)) else (none)) = some r := by rw [if_neg (show ¬ (false = true) by decide)] at H; exact H
        clear H
        have H := H1
        clear H1
        obtain ⟨ji13, hji13⟩ : ∃ j_ : Int, (wrap64 ((t265.length : Int) + (t268.length : Int))) = j_ := ⟨_, rfl⟩
        replace H : (if 0 ≤ (ji13) then (if (ji13 : Int).toNat ≤ 70368744177664 then (bignat_Mul.l0 kj4 t268 (List.replicate (ji13 : Int).toNat 0) t265 (t265.length : Int) 0) else (none)) else (none)) = some r := by first | (rw [hji13] at H; exact H) | (simp only [hji13] at H ⊢; exact H)
        have hji13w : (IntKind.i64.wrap ((t265.length : Int) + (t268.length : Int))) = ji13 := (i64_w _).trans hji13
        (try (have hji13r := hji13; simp only [hji11] at hji13r))
        (try (have hji13wr := hji13w; simp only [hji11] at hji13wr))
        by_cases c14 : 0 ≤ (ji13)
        · rw [if_pos c14] at H
          have c14b0 := eq_true c14
          have c14b1 : decide (0 ≤ (ji13)) = true := decide_eq_true c14
          clear c14
          by_cases c15 : (ji13 : Int).toNat ≤ 70368744177664
          · rw [if_pos c15] at H
            have c15b0 := eq_true c15
            have c15b1 : decide ((ji13 : Int).toNat ≤ 70368744177664) = true := decide_eq_true c15
            clear c15
            obtain ⟨y271, hy271⟩ : ∃ y_ : List Int, y_ = (List.replicate (ji13 : Int).toNat 0) := ⟨_, rfl⟩
            replace H : (bignat_Mul.l0 kj4 t268 y271 t265 (t265.length : Int) 0) = some r := by first | (rw [hy271]; with_reducible exact H) | (have H2_ := (Option.bind_some _ _).symm.trans H; rw [hy271]; with_reducible exact H2_) | (have H2_ := (Option.bind_some _ _).symm.trans H; with_reducible exact H2_) | with_reducible exact H | (rw [hy271]; exact H) | exact H
            have Ny271 := Aside0.mk hy271
            clear hy271
            have H' := Aside0.mk H
            clear H
            obtain ⟨Ao16, co16, eo16⟩ := Kd.V_slice HO_0.out
            subst eo16
            obtain ⟨Ao17, co17, eo17⟩ := Kd.V_slice HO_1.out
            subst eo17
            go_wp2_with (first | ((with_reducible refine gate_dst (N := 28) rfl ?_); (try (refine gate_guard (by rfl) ?_; dsimp only)); refine Kd.R_make (Kd.int .u32) _ 43 rfl (N := 28) rfl 23 _ _ rfl ji13 rfl rfl Try.underlying23 (.int .u32 0) 4 info43 rfl (by decide) (by omega) 0 (ok := fun _ => True) (okp := fun _ => True) rfl (fun _ hk => hk) trivial (of_decide_eq_true (by first | (with_reducible assumption) | assumption)) (Nat.le_trans (Nat.mul_le_mul_right _ (of_decide_eq_true (by first | (with_reducible assumption) | assumption) : ji13.toNat ≤ 70368744177664)) (by omega)) (Below.refl _ _) (Nat.le_refl _) ?_; intro v272 w18 ho19 hb hg_ hnew_; clear hg_ hnew_; (first | rw [← Ny271.out] at ho19 | (simp only [Int.reduceToNat] at ho19; rw [← Ny271.out] at ho19)); have n0_ := Aside0.mk (Kd.V_elder' (by (with_reducible repeat (first | apply Kd.V_alloc | apply Kd.V_drewN | apply Kd.V_drew)); exact HO_0.out) (Kd.R_base ho19) hb); have n1_ := Aside0.mk (Kd.V_elder' (by (with_reducible repeat (first | apply Kd.V_alloc | apply Kd.V_drewN | apply Kd.V_drew)); exact HO_1.out) (Kd.R_base ho19) hb); have n2_ := Aside0.mk (Kd.R_lower (Kd.R_newM (M := fun k_ => (w.heap.size ≤ k_)) ho19 (below_size (by repeat (first | (with_reducible first | exact HB.out | apply below_alloc | apply pw_below_drewN | apply below_drew1) | exact HB.out))) (fun k_ h_ => h_)) (below_size (by repeat (first | (with_reducible first | exact HB.out | apply below_alloc | apply pw_below_drewN | apply below_drew1) | exact HB.out)))); have n3_ := Aside0.mk (below_step (by repeat (first | (with_reducible first | exact HB.out | apply below_alloc | apply pw_below_drewN | apply below_drew1) | exact HB.out)) hb); clear HO_0; clear HO_1; clear HB; have HO_0 := n0_; have HO_1 := n1_; have HO273 := n2_; have HB := n3_; clear n0_ n1_ n2_ n3_; clear hb ho19))
            go_loopg [31] kj4 (fun kq v31 w' => ∃ (x5_2 : List Int) (x31_2 : Int), v31 = .int .i64 x31_2 ∧ Aside0 (bignat_Mul.l0 kq t268 x5_2 t265 (t265.length : Int) x31_2 = some r) ∧ Aside0 (kq ≤ kj4) ∧ Aside0 (Kd.V (Kd.int .u32) 43 w' w.heap.size (fun k_ => ((P0_ k_ ∨ P1_ k_) ∨ w.heap.size ≤ k_) ∧ some k_ ≠ (v272 : Value).ownBlock) (.slice Ao17 t268.length co17) t268) ∧ Aside0 (Kd.R (Kd.int .u32) 43 w' w.heap.size (fun k_ => (w.heap.size ≤ k_)) v272 x5_2) ∧ Aside0 (Kd.V (Kd.int .u32) 43 w' w.heap.size (fun k_ => ((P0_ k_ ∨ P1_ k_) ∨ w.heap.size ≤ k_) ∧ some k_ ≠ (v272 : Value).ownBlock) (.slice Ao16 t265.length co16) t265) ∧ Aside0 (Below w.heap.size w w'))
            case atStart => exact ⟨(y271), (0), (by first | rfl | (simp; done) | (simp [*]; done)), H', ⟨Nat.le_refl _⟩, ⟨by (with_reducible repeat (first | apply Kd.V_alloc | apply Kd.V_drewN | apply Kd.V_drew)); exact HO_1.out⟩, ⟨by (with_reducible repeat (first | apply Kd.R_alloc | apply Kd.R_drewN | apply Kd.R_drew)); exact Kd.R_mono HO273.out (fun _ hk => hk.1)⟩, ⟨by (with_reducible repeat (first | apply Kd.V_alloc | apply Kd.V_drewN | apply Kd.V_drew)); exact HO_0.out⟩, ⟨by repeat (first | (with_reducible first | exact HB.out | apply below_alloc | apply pw_below_drewN | apply below_drew1) | exact HB.out)⟩⟩
            case round =>
              clear H'
              try clear c1
              try clear c2
              try clear p2
              try clear c4
              try clear p6
              try clear c8
              try clear c8b0
              try clear c8b1
              try clear c8b2
              try clear c12
              try clear c14
              try clear c14b0
              try clear c14b1
              try clear c15
              try clear c15b0
              try clear c15b1
              try clear p2
              obtain ⟨x5_2, x31_2, rfl, HA, HK2, HO_1, HO_5, HO_29, HB⟩ := hrel
              cases gk with
              | zero => exact absurd HA.out (by simp [bignat_Mul.l0])
              | succ k2 =>
                have H := HA.out
                clear HA
                simp only [bignat_Mul.l0] at H
                by_cases c20 : x31_2 < (t265.length : Int)
                · rw [if_pos c20] at H
                  have c20b0 : decide (x31_2 < (t265.length : Int)) = true := decide_eq_true c20
                  clear c20
                  by_cases c21 : 0 ≤ x31_2
                  · rw [if_pos c21] at H
                    have c21b0 : decide (0 ≤ x31_2) = true := decide_eq_true c21
                    clear c21
                    by_cases c22 : x31_2 < (t265.length : Int)
                    · rw [if_pos c22] at H
                      have c22b0 : decide (x31_2 < (t265.length : Int)) = true := decide_eq_true c22
                      clear c22
                      have H' := Aside0.mk H
                      clear H
                      have p277 : 0 ≤ (x31_2 : Int) := of_decide_eq_true (by first | (with_reducible assumption) | assumption)
                      have q277 : x31_2 < (t265.length : Int) := of_decide_eq_true (by first | (with_reducible assumption) | assumption)
                      obtain ⟨ad277, e277, hx277_0⟩ := Kd.at_int (Kd.V_reads' HO_29.out).2.2 x31_2 p277 q277
                      cases e277
                      replace p277 := eq_true p277
                      replace q277 := eq_true q277
                      go_wp2
                      go_loopg [8, 38] k2 (fun kq v8 v38 w' => ∃ (x5_3 : List Int) (x8_3 : Int) (x38_3 : Int), v8 = .int .u64 x8_3 ∧ v38 = .int .i64 x38_3 ∧ Aside0 (bignat_Mul.l1 kq t268 x5_3 x31_2 (rd t265 x31_2) x8_3 t265 (t265.length : Int) x31_2 t268 (t268.length : Int) x38_3 = some r) ∧ Aside0 (kq ≤ k2) ∧ Aside0 (Kd.V (Kd.int .u32) 43 w' w.heap.size (fun k_ => ((P0_ k_ ∨ P1_ k_) ∨ w.heap.size ≤ k_) ∧ some k_ ≠ (v272 : Value).ownBlock) (.slice Ao17 t268.length co17) t268) ∧ Aside0 (Kd.R (Kd.int .u32) 43 w' w.heap.size (fun k_ => (w.heap.size ≤ k_)) v272 x5_3) ∧ Aside0 (Kd.V (Kd.int .u32) 43 w' w.heap.size (fun k_ => ((P0_ k_ ∨ P1_ k_) ∨ w.heap.size ≤ k_) ∧ some k_ ≠ (v272 : Value).ownBlock) (.slice (some ad277) t265.length co16) t265) ∧ Aside0 (Kd.V (Kd.int .u32) 43 w' w.heap.size (fun k_ => ((P0_ k_ ∨ P1_ k_) ∨ w.heap.size ≤ k_) ∧ some k_ ≠ (v272 : Value).ownBlock) (.slice Ao17 t268.length co17) t268) ∧ Aside0 (Below w.heap.size w w'))
                      case atStart => exact ⟨(x5_2), (0), (0), (by first | rfl | (simp; done) | (simp [*]; done)), (by first | rfl | (simp; done) | (simp [*]; done)), H', ⟨Nat.le_refl _⟩, ⟨by (with_reducible repeat (first | apply Kd.V_alloc | apply Kd.V_drewN | apply Kd.V_drew)); exact HO_1.out⟩, ⟨by (with_reducible repeat (first | apply Kd.R_alloc | apply Kd.R_drewN | apply Kd.R_drew)); exact HO_5.out⟩, ⟨by (with_reducible repeat (first | apply Kd.V_alloc | apply Kd.V_drewN | apply Kd.V_drew)); exact HO_29.out⟩, ⟨by (with_reducible repeat (first | apply Kd.V_alloc | apply Kd.V_drewN | apply Kd.V_drew)); exact HO_1.out⟩, ⟨by repeat (first | (with_reducible first | exact HB.out | apply below_alloc | apply pw_below_drewN | apply below_drew1) | exact HB.out)⟩⟩
                      case round =>
                        clear H'
                        try clear c1
                        try clear c2
                        try clear p2
                        try clear q2
                        try clear hx2
                        try clear c4
                        try clear p6
                        try clear c8
                        try clear c8b0
                        try clear c8b1
                        try clear c8b2
                        try clear c12
                        try clear c14
                        try clear c14b0
                        try clear c14b1
                        try clear c15
                        try clear c15b0
                        try clear c15b1
                        try clear c20
                        try clear c20b0
                        try clear c21
                        try clear c21b0
                        try clear c22
                        try clear c22b0
                        try clear hx277_0
                        try clear p2
                        try clear p277
                        try clear p6
                        try clear q277
                        obtain ⟨x5_3, x8_3, x38_3, rfl, rfl, HA, HK3, HO_1, HO_5, HO_29, HO_36, HB⟩ := hrel
                        cases gk with
                        | zero => exact absurd HA.out (by simp [bignat_Mul.l1])
                        | succ k3 =>
                          have H := HA.out
                          clear HA
                          simp only [bignat_Mul.l1] at H
                          by_cases c23 : x38_3 < (t268.length : Int)
                          · rw [if_pos c23] at H
                            have c23b0 : decide (x38_3 < (t268.length : Int)) = true := decide_eq_true c23
                            clear c23
                            by_cases c24 : 0 ≤ x38_3
                            · rw [if_pos c24] at H
                              have c24b0 : decide (0 ≤ x38_3) = true := decide_eq_true c24
                              clear c24
                              by_cases c25 : x38_3 < (t268.length : Int)
                              · rw [if_pos c25] at H
                                have c25b0 : decide (x38_3 < (t268.length : Int)) = true := decide_eq_true c25
                                clear c25
                                obtain ⟨ji26, hji26⟩ : ∃ j_ : Int, (wrap64 (x31_2 + x38_3)) = j_ := ⟨_, rfl⟩
                                replace H : (if 0 ≤ (ji26) then (if (ji26) < (x5_3.length : Int) then (bignat_Mul.l1 k3 t268 (x5_3.set ((ji26) : Int).toNat ((IntKind.u64.wrap (x8_3 + (IntKind.u64.wrap ((IntKind.u64.wrap ((IntKind.u64.wrap ((rd t265 x31_2))) * (IntKind.u64.wrap (rd t268 x38_3)))) + (IntKind.u64.wrap (rd x5_3 (ji26))))))) % 4294967296)) x31_2 (rd t265 x31_2) ((IntKind.u64.wrap (x8_3 + (IntKind.u64.wrap ((IntKind.u64.wrap ((IntKind.u64.wrap ((rd t265 x31_2))) * (IntKind.u64.wrap (rd t268 x38_3)))) + (IntKind.u64.wrap (rd x5_3 (ji26))))))) / 4294967296) t265 (t265.length : Int) x31_2 t268 (t268.length : Int) (wrap64 (x38_3 + 1))) else (none)) else (none)) = some r := by first | (rw [hji26] at H; exact H) | (simp only [hji26] at H ⊢; exact H)
                                have hji26w : (IntKind.i64.wrap (x31_2 + x38_3)) = ji26 := (i64_w _).trans hji26
                                (try (have hji26r := hji26; simp only [hji11, hji13] at hji26r))
                                (try (have hji26wr := hji26w; simp only [hji11, hji13] at hji26wr))
                                by_cases c27 : 0 ≤ (ji26)
                                · rw [if_pos c27] at H
                                  have c27b0 : decide (0 ≤ (ji26)) = true := decide_eq_true c27
                                  clear c27
                                  by_cases c28 : (ji26) < (x5_3.length : Int)
                                  · rw [if_pos c28] at H
                                    have c28b0 : decide ((ji26) < (x5_3.length : Int)) = true := decide_eq_true c28
                                    clear c28
                                    obtain ⟨y280, hy280⟩ : ∃ y_ : List Int, y_ = (x5_3.set ((ji26) : Int).toNat ((IntKind.u64.wrap (x8_3 + (IntKind.u64.wrap ((IntKind.u64.wrap ((IntKind.u64.wrap ((rd t265 x31_2))) * (IntKind.u64.wrap (rd t268 x38_3)))) + (IntKind.u64.wrap (rd x5_3 (ji26))))))) % 4294967296)) := ⟨_, rfl⟩
                                    replace H : (bignat_Mul.l1 k3 t268 y280 x31_2 (rd t265 x31_2) ((IntKind.u64.wrap (x8_3 + (IntKind.u64.wrap ((IntKind.u64.wrap ((IntKind.u64.wrap ((rd t265 x31_2))) * (IntKind.u64.wrap (rd t268 x38_3)))) + (IntKind.u64.wrap (rd x5_3 (ji26))))))) / 4294967296) t265 (t265.length : Int) x31_2 t268 (t268.length : Int) (wrap64 (x38_3 + 1))) = some r := by first | (rw [hy280]; with_reducible exact H) | (have H2_ := (Option.bind_some _ _).symm.trans H; rw [hy280]; with_reducible exact H2_) | (have H2_ := (Option.bind_some _ _).symm.trans H; with_reducible exact H2_) | with_reducible exact H | (rw [hy280]; exact H) | exact H
                                    have Ny280 := Aside0.mk hy280
                                    clear hy280
                                    have H' := Aside0.mk H
                                    clear H
                                    have p278 : 0 ≤ (x38_3 : Int) := of_decide_eq_true (by first | (with_reducible assumption) | assumption)
                                    have q278 : x38_3 < (t268.length : Int) := of_decide_eq_true (by first | (with_reducible assumption) | assumption)
                                    obtain ⟨ad278, e278, hx278_0⟩ := Kd.at_int (Kd.V_reads' HO_36.out).2.2 x38_3 p278 q278
                                    cases e278
                                    replace p278 := eq_true p278
                                    replace q278 := eq_true q278
                                    obtain ⟨Ao30, co30, eo30⟩ := Kd.R_slice HO_5.out
                                    subst eo30
                                    have p279 : 0 ≤ ((ji26) : Int) := of_decide_eq_true (by first | (with_reducible assumption) | assumption)
                                    have q279 : (ji26) < (x5_3.length : Int) := of_decide_eq_true (by first | (with_reducible assumption) | assumption)
                                    obtain ⟨ad279, e279, hx279_0⟩ := Kd.at_int (Kd.R_reads' HO_5.out).2.2 (ji26) p279 q279
                                    cases e279
                                    replace p279 := eq_true p279
                                    replace q279 := eq_true q279
                                    have p29 : 0 ≤ ((ji26) : Int) := of_decide_eq_true (by first | (with_reducible assumption) | assumption)
                                    have q29 : ((ji26) : Int) < ((x5_3.length : Int) : Int) := of_decide_eq_true (by first | (with_reducible assumption) | assumption)
                                    obtain ⟨go29, co29, eo29, gb29, gl29, cl29, HG29⟩ := Kd.R_form HO_5.out (by omega)
                                    (first | cases eo29 | (injection eo29 with ea_ en_ ec_; (first | subst ea_ | (injection ea_ with ea_; subst ea_)); subst ec_; clear en_))
                                    have GB29 := Aside0.mk gb29
                                    have GG29 := Aside0.mk HG29
                                    clear gb29 gl29 HG29
                                    (first | simp only [add_plain] at hx279_0 | skip)
                                    obtain ⟨hx29_0, hf29_0⟩ := Kd.R_celln 0 HO_5.out ((ji26) : Int) p29 q29
                                    replace p29 := eq_true p29
                                    replace q29 := eq_true q29
                                    obtain ⟨hy31_, hz31_⟩ := Kd.R_celln 0 HO_5.out ((ji26) : Int) (of_decide_eq_true (by first | (with_reducible assumption) | assumption)) (of_decide_eq_true (by first | (with_reducible assumption) | assumption))
                                    have HP31 := Kd.R_putg HO_5.out ((ji26) : Int) ((IntKind.u64.wrap (x8_3 + (IntKind.u64.wrap ((IntKind.u64.wrap ((IntKind.u64.wrap ((rd t265 x31_2))) * (IntKind.u64.wrap (rd t268 x38_3)))) + (IntKind.u64.wrap (rd x5_3 (ji26))))))) % 4294967296)
                                    go_wp2_with (first | ((with_reducible refine gate_store (t := 43) (p := 64) rfl ?_); refine store_event (t := 43) (p := 64) (v := ?vo_w32) (w1 := (wr.setCell ⟨go29, ((ji26) : Int).toNat, none⟩ (.int .u32 ((IntKind.u64.wrap (x8_3 + (IntKind.u64.wrap ((IntKind.u64.wrap ((IntKind.u64.wrap ((rd t265 x31_2))) * (IntKind.u64.wrap (rd t268 x38_3)))) + (IntKind.u64.wrap (rd x5_3 (ji26))))))) % 4294967296)))) ?hg ?ho ?hn ?hr ?_; (case ho => rfl); (case hg => rfl); (case hn => rfl); (case hr => first | (go_simp; done) | (go_simp; rfl)); intro w32 hw; have hg : wr.grownBy w32 (some go29) := (by rw [hw]; exact HP31.2); have hp_ : Kd.R (Kd.int .u32) 43 w32 w.heap.size (fun k_ => (w.heap.size ≤ k_)) (.slice (some ⟨go29, 0, none⟩) x5_3.length co30) y280 := (by rw [hw, Ny280.out]; exact HP31.1); clear HP31; have n0_ := Aside0.mk (Kd.V_afterv (v := (.slice (some ⟨go29, 0, none⟩) x5_3.length co30)) (v1 := (.slice (some ⟨go29, 0, none⟩) x5_3.length co30)) (ok := (fun k_ => ((P0_ k_ ∨ P1_ k_) ∨ w.heap.size ≤ k_))) (by (with_reducible repeat (first | apply Kd.V_alloc | apply Kd.V_drewN | apply Kd.V_drew)); exact HO_1.out) hg (.inl rfl)); have n1_ := Aside0.mk (hp_); have n2_ := Aside0.mk (Kd.V_afterv (v := (.slice (some ⟨go29, 0, none⟩) x5_3.length co30)) (v1 := (.slice (some ⟨go29, 0, none⟩) x5_3.length co30)) (ok := (fun k_ => ((P0_ k_ ∨ P1_ k_) ∨ w.heap.size ≤ k_))) (by (with_reducible repeat (first | apply Kd.V_alloc | apply Kd.V_drewN | apply Kd.V_drew)); exact HO_29.out) hg (.inl rfl)); have n3_ := Aside0.mk (Kd.V_afterv (v := (.slice (some ⟨go29, 0, none⟩) x5_3.length co30)) (v1 := (.slice (some ⟨go29, 0, none⟩) x5_3.length co30)) (ok := (fun k_ => ((P0_ k_ ∨ P1_ k_) ∨ w.heap.size ≤ k_))) (by (with_reducible repeat (first | apply Kd.V_alloc | apply Kd.V_drewN | apply Kd.V_drew)); exact HO_36.out) hg (.inl rfl)); have n4_ := Aside0.mk ((by rw [hw]; exact below_set (HB.out) GB29.out : Below w.heap.size w w32)); clear HO_1; clear HO_5; clear HO_29; clear HO_36; clear HB; have HO_1 := n0_; have HO_5 := n1_; have HO_29 := n2_; have HO_36 := n3_; have HB := n4_; clear n0_ n1_ n2_ n3_ n4_; clear hg hw hp_))
                                    go_roundg k3
                                    case measure => have := HJ4.out; have := HK2.out; have := HK3.out; omega
                                    case rel => exact ⟨(y280), ((IntKind.u64.wrap (x8_3 + (IntKind.u64.wrap ((IntKind.u64.wrap ((IntKind.u64.wrap ((rd t265 x31_2))) * (IntKind.u64.wrap (rd t268 x38_3)))) + (IntKind.u64.wrap (rd x5_3 (ji26))))))) / 4294967296), (wrap64 (x38_3 + 1)), (by first | rfl | (simp; done) | (simp only [← hji26] <;> (first | rfl | simp)) | (simp [*]; done)), (by first | rfl | (simp; done) | (simp [*]; done)), H', ⟨by have := HJ4.out; have := HK2.out; have := HK3.out; omega⟩, ⟨by (with_reducible repeat (first | apply Kd.V_alloc | apply Kd.V_drewN | apply Kd.V_drew)); exact HO_1.out⟩, ⟨by (with_reducible repeat (first | apply Kd.R_alloc | apply Kd.R_drewN | apply Kd.R_drew)); exact HO_5.out⟩, ⟨by (with_reducible repeat (first | apply Kd.V_alloc | apply Kd.V_drewN | apply Kd.V_drew)); exact HO_29.out⟩, ⟨by (with_reducible repeat (first | apply Kd.V_alloc | apply Kd.V_drewN | apply Kd.V_drew)); exact HO_36.out⟩, ⟨by repeat (first | (with_reducible first | exact HB.out | apply below_alloc | apply pw_below_drewN | apply below_drew1) | exact HB.out)⟩⟩
                                  · rw [if_neg c28] at H
                                    exact absurd H (by simp)
                                · rw [if_neg c27] at H
                                  exact absurd H (by simp)
                              · rw [if_neg c25] at H
                                exact absurd H (by simp)
                            · rw [if_neg c24] at H
                              exact absurd H (by simp)
                          · rw [if_neg c23] at H
                            have c23b0 : decide (x38_3 < (t268.length : Int)) = false := decide_eq_false c23
                            clear c23
                            obtain ⟨ji33, hji33⟩ : ∃ j_ : Int, (wrap64 (x31_2 + (t268.length : Int))) = j_ := ⟨_, rfl⟩
                            replace H : (if 0 ≤ (ji33) then (if (ji33) < (x5_3.length : Int) then (bignat_Mul.l0 k3 t268 (x5_3.set ((ji33) : Int).toNat ((x8_3) % 4294967296)) t265 (t265.length : Int) (wrap64 (x31_2 + 1))) else (none)) else (none)) = some r := by first | (rw [hji33] at H; exact H) | (simp only [hji33] at H ⊢; exact H)
                            have hji33w : (IntKind.i64.wrap (x31_2 + (t268.length : Int))) = ji33 := (i64_w _).trans hji33
                            (try (have hji33r := hji33; simp only [hji11, hji13] at hji33r))
                            (try (have hji33wr := hji33w; simp only [hji11, hji13] at hji33wr))
                            by_cases c34 : 0 ≤ (ji33)
                            · rw [if_pos c34] at H
                              have c34b0 : decide (0 ≤ (ji33)) = true := decide_eq_true c34
                              clear c34
                              by_cases c35 : (ji33) < (x5_3.length : Int)
                              · rw [if_pos c35] at H
                                have c35b0 : decide ((ji33) < (x5_3.length : Int)) = true := decide_eq_true c35
                                clear c35
                                obtain ⟨y281, hy281⟩ : ∃ y_ : List Int, y_ = (x5_3.set ((ji33) : Int).toNat ((x8_3) % 4294967296)) := ⟨_, rfl⟩
                                replace H : (bignat_Mul.l0 k3 t268 y281 t265 (t265.length : Int) (wrap64 (x31_2 + 1))) = some r := by first | (rw [hy281]; with_reducible exact H) | (have H2_ := (Option.bind_some _ _).symm.trans H; rw [hy281]; with_reducible exact H2_) | (have H2_ := (Option.bind_some _ _).symm.trans H; with_reducible exact H2_) | with_reducible exact H | (rw [hy281]; exact H) | exact H
                                have Ny281 := Aside0.mk hy281
                                clear hy281
                                have H' := Aside0.mk H
                                clear H
                                have p36 : 0 ≤ ((ji33) : Int) := of_decide_eq_true (by first | (with_reducible assumption) | assumption)
                                have q36 : ((ji33) : Int) < ((x5_3.length : Int) : Int) := of_decide_eq_true (by first | (with_reducible assumption) | assumption)
                                obtain ⟨go36, co36, eo36, gb36, gl36, cl36, HG36⟩ := Kd.R_form HO_5.out (by omega)
                                (first | cases eo36 | (injection eo36 with ea_ en_ ec_; (first | subst ea_ | (injection ea_ with ea_; subst ea_)); subst ec_; clear en_))
                                have GB36 := Aside0.mk gb36
                                have GG36 := Aside0.mk HG36
                                clear gb36 gl36 HG36
                                obtain ⟨hx36_0, hf36_0⟩ := Kd.R_celln 0 HO_5.out ((ji33) : Int) p36 q36
                                replace p36 := eq_true p36
                                replace q36 := eq_true q36
                                obtain ⟨hy37_, hz37_⟩ := Kd.R_celln 0 HO_5.out ((ji33) : Int) (of_decide_eq_true (by first | (with_reducible assumption) | assumption)) (of_decide_eq_true (by first | (with_reducible assumption) | assumption))
                                have HP37 := Kd.R_putg HO_5.out ((ji33) : Int) ((x8_3) % 4294967296)
                                go_wp2_with (first | ((with_reducible refine gate_store (t := 43) (p := 75) rfl ?_); refine store_event (t := 43) (p := 75) (v := ?vo_w38) (w1 := (wr.setCell ⟨go36, ((ji33) : Int).toNat, none⟩ (.int .u32 ((x8_3) % 4294967296)))) ?hg ?ho ?hn ?hr ?_; (case ho => rfl); (case hg => rfl); (case hn => rfl); (case hr => first | (go_simp; done) | (go_simp; rfl)); intro w38 hw; have hg : wr.grownBy w38 (some go36) := (by rw [hw]; exact HP37.2); have hp_ : Kd.R (Kd.int .u32) 43 w38 w.heap.size (fun k_ => (w.heap.size ≤ k_)) (.slice (some ⟨go36, 0, none⟩) x5_3.length co36) y281 := (by rw [hw, Ny281.out]; exact HP37.1); clear HP37; have n0_ := Aside0.mk (Kd.V_afterv (v := (.slice (some ⟨go36, 0, none⟩) x5_3.length co36)) (v1 := (.slice (some ⟨go36, 0, none⟩) x5_3.length co36)) (ok := (fun k_ => ((P0_ k_ ∨ P1_ k_) ∨ w.heap.size ≤ k_))) (by (with_reducible repeat (first | apply Kd.V_alloc | apply Kd.V_drewN | apply Kd.V_drew)); exact HO_1.out) hg (.inl rfl)); have n1_ := Aside0.mk (hp_); have n2_ := Aside0.mk (Kd.V_afterv (v := (.slice (some ⟨go36, 0, none⟩) x5_3.length co36)) (v1 := (.slice (some ⟨go36, 0, none⟩) x5_3.length co36)) (ok := (fun k_ => ((P0_ k_ ∨ P1_ k_) ∨ w.heap.size ≤ k_))) (by (with_reducible repeat (first | apply Kd.V_alloc | apply Kd.V_drewN | apply Kd.V_drew)); exact HO_29.out) hg (.inl rfl)); have n3_ := Aside0.mk (Kd.V_afterv (v := (.slice (some ⟨go36, 0, none⟩) x5_3.length co36)) (v1 := (.slice (some ⟨go36, 0, none⟩) x5_3.length co36)) (ok := (fun k_ => ((P0_ k_ ∨ P1_ k_) ∨ w.heap.size ≤ k_))) (by (with_reducible repeat (first | apply Kd.V_alloc | apply Kd.V_drewN | apply Kd.V_drew)); exact HO_36.out) hg (.inl rfl)); have n4_ := Aside0.mk ((by rw [hw]; exact below_set (HB.out) GB36.out : Below w.heap.size w w38)); clear HO_1; clear HO_5; clear HO_29; clear HO_36; clear HB; have HO_1 := n0_; have HO_5 := n1_; have HO_29 := n2_; have HO_36 := n3_; have HB := n4_; clear n0_ n1_ n2_ n3_ n4_; clear hg hw hp_))
                                go_roundg k3
                                case measure => have := HJ4.out; have := HK2.out; have := HK3.out; omega
                                case rel => exact ⟨(y281), (wrap64 (x31_2 + 1)), (by first | rfl | (simp; done) | (simp [*]; done)), H', ⟨by have := HJ4.out; have := HK2.out; have := HK3.out; omega⟩, ⟨by (with_reducible repeat (first | apply Kd.V_alloc | apply Kd.V_drewN | apply Kd.V_drew)); exact HO_1.out⟩, ⟨by (with_reducible repeat (first | apply Kd.R_alloc | apply Kd.R_drewN | apply Kd.R_drew)); exact HO_5.out⟩, ⟨by (with_reducible repeat (first | apply Kd.V_alloc | apply Kd.V_drewN | apply Kd.V_drew)); exact HO_29.out⟩, ⟨by repeat (first | (with_reducible first | exact HB.out | apply below_alloc | apply pw_below_drewN | apply below_drew1) | exact HB.out)⟩⟩
                              · rw [if_neg c35] at H
                                exact absurd H (by simp)
                            · rw [if_neg c34] at H
                              exact absurd H (by simp)
                    · rw [if_neg c22] at H
                      exact absurd H (by simp)
                  · rw [if_neg c21] at H
                    exact absurd H (by simp)
                · rw [if_neg c20] at H
                  have c20b0 : decide (x31_2 < (t265.length : Int)) = false := decide_eq_false c20
                  clear c20
                  replace H := Option.bind_eq_some_iff.mp H
                  obtain ⟨t274, A390, H⟩ := H
                  replace H : (some t274) = some r := H
                  have A39 := Aside0.mk A390
                  clear A390
                  obtain rfl := Option.some.inj H
                  obtain ⟨Ao40, co40, eo40⟩ := Kd.R_slice HO_5.out
                  subst eo40
                  go_wp2_with (first | ((with_reducible refine gate_callee (f := 47) rfl ?_); refine goesL_ (some 78) rfl rfl Try.func47 (by kernel_rfl) rfl #[.slice Ao40 x5_2.length co40] rfl (by (try simp only [List.map_toArray, List.map_cons, List.map_nil]); first | done | rfl | (simp only [List.length_drop, List.length_take]; rfl) | (go_simp; done) | (go_simp; rfl) | (go_simp; (try simp only [IntKind.wrap_u8, IntKind.wrap_u32, IntKind.wrap_u64]); omega)) ?_; (with_reducible refine (bignat_trim.calls k2 (fun k_ => some k_ = (.slice Ao40 x5_2.length co40 : Value).ownBlock) _ _ x5_2 t274 _ ?side1 A39.out).mono ?_); (case side1 => exact Kd.R_V (Kd.R_tight rfl (HO_5.out))); rintro e w41 ⟨v275, rfl, ho0, hb⟩; refine ⟨_, rfl, ?_⟩; have n0_ := Aside0.mk (Kd.V_below (by (with_reducible repeat (first | apply Kd.V_alloc | apply Kd.V_drewN | apply Kd.V_drew)); exact HO_1.out) hb); have n1_ := Aside0.mk (Kd.R_below (by (with_reducible repeat (first | apply Kd.R_alloc | apply Kd.R_drewN | apply Kd.R_drew)); exact HO_5.out) hb); have n2_ := Aside0.mk (Kd.V_below (by (with_reducible repeat (first | apply Kd.V_alloc | apply Kd.V_drewN | apply Kd.V_drew)); exact HO_29.out) hb); have n3_ := Aside0.mk (Kd.V_lower (Kd.V_mono (ok' := fun k_ => ((P0_ k_ ∨ P1_ k_) ∨ w.heap.size ≤ k_)) ho0 (fun k_ hk_ => Or.elim hk_ (fun hs_ => (.inr (((HO_5.out).1 k_ hs_.symm)))) (fun hn_ => (.inr (Nat.le_trans (below_size (by repeat (first | (with_reducible first | exact HB.out | apply below_alloc | apply pw_below_drewN | apply below_drew1) | exact HB.out))) hn_))))) (below_size (by repeat (first | (with_reducible first | exact HB.out | apply below_alloc | apply pw_below_drewN | apply below_drew1) | exact HB.out)))); have n4_ := Aside0.mk (below_step (by repeat (first | (with_reducible first | exact HB.out | apply below_alloc | apply pw_below_drewN | apply below_drew1) | exact HB.out)) hb); clear HO_1; clear HO_5; clear HO_29; clear HB; have HO_1 := n0_; have HO_5 := n1_; have HO_29 := n2_; have HO276 := n3_; have HB := n4_; clear n0_ n1_ n2_ n3_ n4_; (try clear hb); (try clear hb2); (try clear hk); (try clear hi); (try clear ho0)))
                  go_ret
                  exact ⟨_, by first | rfl | (simp [errW_none, errW_some] <;> rfl) | (simp only [← hji13]; first | rfl | (simp [errW_none, errW_some] <;> rfl)) | (simp [*, errW_none, errW_some] <;> rfl), by (with_reducible repeat (first | apply Kd.V_alloc | apply Kd.V_drewN | apply Kd.V_drew)); exact HO276.out, by repeat (first | (with_reducible first | exact HB.out | apply below_alloc | apply pw_below_drewN | apply below_drew1) | exact HB.out)⟩
          · rw [if_neg c15] at H
            exact absurd H (by simp)
        · rw [if_neg c14] at H
          exact absurd H (by simp)

end Go.Proofs.Ytjiaplnpgjicgaa.Q

