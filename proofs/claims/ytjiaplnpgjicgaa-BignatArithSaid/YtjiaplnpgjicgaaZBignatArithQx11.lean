/- Lemmas for the proof of one law of this seat (Qx11). -/
import Derived.Test.YtjiaplnpgjicgaaZBignatArithQx0
import Derived.Test.YtjiaplnpgjicgaaZBignatArithQx1
import Derived.Test.YtjiaplnpgjicgaaZBignatArithQx6
import Derived.Test.YtjiaplnpgjicgaaZBignatArithQx10
import Derived.Test.YtjiaplnpgjicgaaZBignatArithSq
namespace Go.Proofs.Ytjiaplnpgjicgaa.Q
open Go.RowKit Go.Proofs.YtjiaplnpgjicgaaW.PrintWords Go.Proofs.YtjiaplnpgjicgaaW.PrintLast Go.Proofs.YtjiaplnpgjicgaaW.PrintMore
attribute [local go_sem] max2_int min2_int max_two min_two max_three min_three max_four min_four   -- for this text's walks alone
set_option linter.unusedVariables false
set_option linter.unusedSimpArgs false

def credencelaw1_BignatRing.f (k : Nat) (l0 : List Int) (l1 : List Int) (l2 : List Int) : Option (Bool) := (credencebase_Nat.f k l0).bind fun t445 => ((credencebase_Nat.f k l1).bind fun t448 => ((credencebase_Nat.f k l2).bind fun t451 => ((bignat_Add.f k t445 t448).bind fun t454 => ((bignat_Add.f k t448 t445).bind fun t457 => ((credencelaw1_same.f k t454 t457).bind fun t460 => (if t460 = true then ((bignat_Mul.f k t445 t448).bind fun t461 => ((bignat_Mul.f k t448 t445).bind fun t464 => ((credencelaw1_same.f k t461 t464).bind fun t467 => (if t467 = true then ((bignat_Add.f k t445 t448).bind fun t468 => ((bignat_Add.f k t468 t451).bind fun t471 => ((bignat_Add.f k t448 t451).bind fun t474 => ((bignat_Add.f k t445 t474).bind fun t477 => ((credencelaw1_same.f k t471 t477).bind fun t480 => (if t480 = true then ((bignat_Mul.f k t445 t448).bind fun t481 => ((bignat_Mul.f k t481 t451).bind fun t484 => ((bignat_Mul.f k t448 t451).bind fun t487 => ((bignat_Mul.f k t445 t487).bind fun t490 => ((credencelaw1_same.f k t484 t490).bind fun t493 => (if t493 = true then ((bignat_Add.f k t448 t451).bind fun t494 => ((bignat_Mul.f k t445 t494).bind fun t497 => ((bignat_Mul.f k t445 t448).bind fun t500 => ((bignat_Mul.f k t445 t451).bind fun t503 => ((bignat_Add.f k t500 t503).bind fun t506 => ((credencelaw1_same.f k t497 t506).bind fun t509 => (if t509 = true then ((credencelaw1_known.f k).bind fun t510 => (some t510)) else (some false)))))))) else (some false))))))) else (some false))))))) else (some false))))) else (some false)))))))
theorem credencelaw1_BignatRing.mono : ∀ a0 a1 a2 k, LeO (credencelaw1_BignatRing.f k a0 a1 a2) (credencelaw1_BignatRing.f (k + 1) a0 a1 a2) := by
 intro a0 a1 a2 k
 unfold credencelaw1_BignatRing.f
 repeat' first
   | (with_reducible exact bignat_Add.mono _ _ _)
   | (with_reducible exact bignat_Mul.mono _ _ _)
   | (with_reducible exact credencebase_Nat.mono _ _)
   | (with_reducible exact credencelaw1_known.mono _)
   | (with_reducible exact credencelaw1_same.mono _ _ _)
   | (with_reducible exact LeO.refl _)
   | (with_reducible exact LeO.none _)
   | (with_reducible refine LeO.ite ?_ ?_)
   | (with_reducible refine LeO.bind ?_ (fun _ => ?_))
   | exact bignat_Add.mono _ _ _
   | exact bignat_Mul.mono _ _ _
   | exact credencebase_Nat.mono _ _
   | exact credencelaw1_known.mono _
   | exact credencelaw1_same.mono _ _ _
   | exact LeO.none _
   | refine LeO.ite ?_ ?_
   | refine LeO.bind ?_ (fun _ => ?_)

def bignat_Normalize.f (k : Nat) (l0 : List Int) : Option (List Int) := (bignat_clone.f k l0).bind fun t511 => (some t511)
theorem bignat_Normalize.mono : ∀ a0 k, LeO (bignat_Normalize.f k a0) (bignat_Normalize.f (k + 1) a0) := by
 intro a0 k
 unfold bignat_Normalize.f
 repeat' first
   | (with_reducible exact bignat_clone.mono _ _)
   | (with_reducible exact LeO.refl _)
   | (with_reducible exact LeO.none _)
   | (with_reducible refine LeO.ite ?_ ?_)
   | (with_reducible refine LeO.bind ?_ (fun _ => ?_))
   | exact bignat_clone.mono _ _
   | exact LeO.none _
   | refine LeO.ite ?_ ?_
   | refine LeO.bind ?_ (fun _ => ?_)
set_option maxHeartbeats 8000000 in
set_option maxRecDepth 100000 in
theorem bignat_Normalize.calls (k : Nat) (A0 : Option Addr) (c0 : Nat) (l0 : List Int) (r : List Int) (w : World) (hr0 : Kd.C (Kd.int .u32) w A0 l0.length l0) (hc0 : l0.length ≤ c0) (h : bignat_Normalize.f k l0 = some r) :
  Calls Try.prog 24 #[.slice A0 l0.length c0] w fun e w' => ∃ v0_ : Value, e = .returned (v0_) ∧ Kd.R (Kd.int .u32) 43 w' w.heap.size (fun _ => True) v0_ r ∧ Below w.heap.size w w' := by
 have HR0 := Aside0.mk hr0
 have HC0 := Aside0.mk hc0
 clear hr0 hc0
 have HB := Aside0.mk (Below.refl w.heap.size w)
 have H : ((bignat_clone.f k l0).bind fun t511 => (some t511)) = some r := h
 clear h
 replace H := Option.bind_eq_some_iff.mp H
 obtain ⟨t511, A20, H⟩ := H
 replace H : (some t511) = some r := H
 have A2 := Aside0.mk A20
 clear A20
 obtain rfl := Option.some.inj H
 go_enter Try.func24, Try.ntmps24
 go_wp2_with (first | ((with_reducible refine gate_callee (f := 41) rfl ?_); refine goesL_ (some 4) rfl rfl Try.func41 (by kernel_rfl) rfl #[.slice A0 l0.length c0] rfl (by first | rfl | (go_simp; first | done | rfl | ((try simp only [IntKind.wrap_u8, IntKind.wrap_u32, IntKind.wrap_u64]); omega))) ?_; (with_reducible refine (bignat_clone.calls k _ _ l0 t511 _ ?side1 ?side2 A2.out).mono ?_); (case side1 => repeat first | exact HR0.out | refine Kd.C_drewN ?_ _ | refine Kd.C_alloc ?_ _ | refine Kd.C_drew ?_); (case side2 => exact HC0.out); rintro e w3 ⟨v512, rfl, ho0, hb⟩; refine ⟨_, rfl, ?_⟩; have n0_ := Aside0.mk (Kd.R_lower ho0 (below_size (zb HB rfl))); have n1_ := Aside0.mk (below_step (zb HB rfl) hb); clear HB; have HO513 := n0_; have HB := n1_; clear n0_ n1_))
 go_ret
 exact ⟨_, by first | rfl | (simp [*, errW_none, errW_some] <;> rfl), by (with_reducible repeat (first | apply Kd.R_alloc | apply Kd.R_drewN | apply Kd.R_drew)); exact HO513.out, by repeat (first | (with_reducible first | exact HB.out | apply below_alloc | apply pw_below_drewN | apply below_drew1) | exact HB.out)⟩

end Go.Proofs.Ytjiaplnpgjicgaa.Q

