/- Lemmas for the proof of one law of this seat (Qx10). -/
import Derived.Test.YtoeldfopjalpkaaDoorZRationalCanonicalQx0
import Derived.Test.YtoeldfopjalpkaaDoorZRationalCanonicalQx1
import Derived.Test.YtoeldfopjalpkaaDoorZRationalCanonicalQx9
import Derived.Test.YtoeldfopjalpkaaDoorZRationalCanonicalZip
namespace Go.Proofs.YtoeldfopjalpkaaDoor.Q
open Go.RowKit Go.Proofs.YtoeldfopjalpkaaDoorW.PrintWords Go.Proofs.YtoeldfopjalpkaaDoorW.PrintLast Go.Proofs.YtoeldfopjalpkaaDoorW.PrintMore
attribute [local go_sem] max2_int min2_int max_two min_two max_three min_three max_four min_four   -- for this text's walks alone
set_option linter.unusedVariables false
set_option linter.unusedSimpArgs false

mutual
def bignat_Parse.j0 : Nat → ByteArray → Bool → Option (List Int × Int)
 | 0, _, _ => none
 | k + 1, x0, x22 => if x22 = true then (none) else (bignat_Parse.l0 k x0 ([] : List Int) 0)
def bignat_Parse.l0 : Nat → ByteArray → List Int → Int → Option (List Int × Int)
 | 0, _, _, _ => none
 | k + 1, x0, x4, x5 => if x5 < (x0.size : Int) then (if 0 ≤ x5 then (if (bt x0 x5) < 48 then (none) else (if (bt x0 x5) > 57 then (none) else (bignat_Parse.l1 k x0 x4 x5 (((bt x0 x5) - 48) % 256) (x4.length : Int) 0))) else (none)) else (some (x4, 0))
def bignat_Parse.l1 : Nat → ByteArray → List Int → Int → Int → Int → Int → Option (List Int × Int)
 | 0, _, _, _, _, _, _ => none
 | k + 1, x0, x4, x5, x6, x45, x46 => if x46 < x45 then (if 0 ≤ x46 then (if x46 < (x4.length : Int) then (bignat_Parse.l1 k x0 (x4.set (x46 : Int).toNat ((IntKind.u64.wrap (x6 + (IntKind.u64.wrap (10 * (IntKind.u64.wrap (rd x4 x46)))))) % 4294967296)) x5 ((IntKind.u64.wrap (x6 + (IntKind.u64.wrap (10 * (IntKind.u64.wrap (rd x4 x46)))))) / 4294967296) x45 (wrap64 (x46 + 1))) else (none)) else (none)) else (if x6 > 0 then (if x4.length < 35184372088832 then (bignat_Parse.l0 k x0 (x4 ++ [(x6) % 4294967296]) (wrap64 (x5 + 1))) else (none)) else (bignat_Parse.l0 k x0 x4 (wrap64 (x5 + 1))))
end
def bignat_Parse.f (k : Nat) (a0 : ByteArray) : Option (List Int × Int) := if (a0.size : Int) > 4000 then (none) else (if a0.toList = ([] : List UInt8) then (none) else (if 0 < (a0.size : Int) then (if (bt a0 0) = 48 then (bignat_Parse.j0 k a0 (decide ((a0.size : Int) > 1))) else (bignat_Parse.j0 k a0 false)) else (none)))
theorem bignat_Parse.mono_l : ∀ k, (∀ y0 y1, LeO (bignat_Parse.j0 k y0 y1) (bignat_Parse.j0 (k + 1) y0 y1)) ∧ (∀ y0 y1 y2, LeO (bignat_Parse.l0 k y0 y1 y2) (bignat_Parse.l0 (k + 1) y0 y1 y2)) ∧ (∀ y0 y1 y2 y3 y4 y5, LeO (bignat_Parse.l1 k y0 y1 y2 y3 y4 y5) (bignat_Parse.l1 (k + 1) y0 y1 y2 y3 y4 y5))
 | 0 => ⟨fun _ _ r h => by simp [bignat_Parse.j0] at h, fun _ _ _ r h => by simp [bignat_Parse.l0] at h, fun _ _ _ _ _ _ r h => by simp [bignat_Parse.l1] at h⟩
 | k + 1 => by
  obtain ⟨ih0, ih1, ih2⟩ := bignat_Parse.mono_l k
  refine ⟨?_, ?_, ?_⟩
  ·
   intro y0 y1
   unfold bignat_Parse.j0
   exact zm3 ih0 ih1 ih2
  ·
   intro y0 y1 y2
   unfold bignat_Parse.l0
   exact zm3 ih0 ih1 ih2
  intro y0 y1 y2 y3 y4 y5
  unfold bignat_Parse.l1
  exact zm3 ih0 ih1 ih2
theorem bignat_Parse.mono : ∀ a0 k, LeO (bignat_Parse.f k a0) (bignat_Parse.f (k + 1) a0) := by
 intro a0 k
 obtain ⟨ih0, ih1, ih2⟩ := bignat_Parse.mono_l k
 unfold bignat_Parse.f
 exact zm3 ih0 ih1 ih2
set_option maxHeartbeats 8000000 in
set_option maxRecDepth 100000 in
theorem bignat_Parse.calls (k : Nat) (a0 : ByteArray) (r1 : List Int) (r2 : Int) (w : World) (h : bignat_Parse.f k a0 = some (r1, r2)) :
 Calls Tryd.prog 85 #[.string a0] w fun e w' => ∃ v0_ : Value, e = .returned (.tuple #[v0_, .int .i64 r2]) ∧ Kd.R (Kd.int .u32) 37 w' w.heap.size (fun _ => True) v0_ r1 ∧ Below w.heap.size w w' := by
 have HB := zA (Below.refl w.heap.size w)
 have H : (if (a0.size : Int) > 4000 then (none) else (if a0.toList = ([] : List UInt8) then (none) else (if 0 < (a0.size : Int) then (if (bt a0 0) = 48 then (bignat_Parse.j0 k a0 (decide ((a0.size : Int) > 1))) else (bignat_Parse.j0 k a0 false)) else (none)))) = some (r1, r2) := h
 clear h
 by_cases c2 : (a0.size : Int) > 4000
 ·
  rw [if_pos c2] at H
  cases H
 rw [if_neg c2] at H
 have c2b0 : decide (4000 < (a0.size : Int)) = false := decide_eq_false c2
 have c2b1 : decide (4000 < a0.size) = false := decide_eq_false (by omega)
 clear c2
 have HC3 := zA H
 clear H
 go_enter Tryd.func85, Tryd.ntmps85
 go_upto_region 3 with (fail)
 go_cut [22] (fun v22 wc => ∃ (kq : Nat) (x22_2 : Bool), v22 = .bool x22_2 ∧ Aside0 (bignat_Parse.j0 kq a0 x22_2 = some (r1, r2)) ∧ Aside0 (kq ≤ k) ∧ Aside0 (Below w.heap.size w wc))
 case first =>
  have H := HC3.out
  clear HC3
  by_cases c4 : a0.toList = ([] : List UInt8)
  ·
   rw [if_pos c4] at H
   cases H
  rw [if_neg c4] at H
  have c4b0 := beq_eq_false_iff_ne.mpr c4
  have c4b1 := bne_iff_ne.mpr c4
  (first | rw [c4b0] | rw [c4b1] | (simp only [i64_w, i32_w]; rw [c4b0]) | skip)
  by_cases c5 : 0 < (a0.size : Int)
  ·
   rw [if_pos c5] at H
   have c5b0 := decide_eq_true c5
   have c5b1 : decide (0 < a0.size) = true := decide_eq_true (by omega)
   clear c5
   by_cases c7 : (bt a0 0) = 48
   ·
    rw [if_pos c7] at H
    have c7b0 := beq_iff_eq.mpr c7
    have c7b1 := bne_eq_false_iff_eq.mpr c7
    clear c7
    have H' := zA H
    clear H
    have p6 : 0 ≤ (0 : Int) := (by omega)
    have q6 : 0 < a0.size := (by have : (0 : Int) < (a0.size : Int) := zD; omega)
    have hx6 : ∀ h : 0 < a0.size, ((a0[0]'h).toNat : Int) = bt a0 0 := bt_at a0 0
    clear p6
    have qi6 : (0 < (a0.size : Int)) = True := eq_true zD
    replace q6 := eq_true q6
    go_wp2
    go_meet
    case rel => exact ⟨_, (decide ((a0.size : Int) > 1)), zS, H', ⟨by first | omega | exact Nat.le_refl _⟩, ⟨zH⟩⟩
   rw [if_neg c7] at H
   have c7b0 := beq_eq_false_iff_ne.mpr c7
   have c7b1 := bne_iff_ne.mpr c7
   have H' := zA H
   clear H
   have p6 : 0 ≤ (0 : Int) := (by omega)
   have q6 : 0 < a0.size := (by have : (0 : Int) < (a0.size : Int) := zD; omega)
   have hx6 : ∀ h : 0 < a0.size, ((a0[0]'h).toNat : Int) = bt a0 0 := bt_at a0 0
   clear p6
   have qi6 : (0 < (a0.size : Int)) = True := eq_true zD
   replace q6 := eq_true q6
   go_wp2
   go_meet
   case rel => exact ⟨_, (false), zS, H', ⟨by first | omega | exact Nat.le_refl _⟩, ⟨zH⟩⟩
  rw [if_neg c5] at H
  cases H
 case rest =>
  clear HC3
  try clear c2
  try clear c2b0
  try clear c2b1
  try clear p2
  try clear c4
  try clear c4b0
  try clear c4b1
  try clear c5
  try clear c5b0
  try clear c5b1
  try clear p6
  try clear q6
  try clear hx6
  try clear qi6
  try clear c7
  try clear c7b0
  try clear c7b1
  try clear p6
  try clear q6
  obtain ⟨kq, x22_2, rfl, HA, HJ2, HB⟩ := hcut
  cases kq with
  | zero => exact absurd HA.out (by simp [bignat_Parse.j0])
  | succ kj2 =>
   have H := HA.out
   clear HA
   simp only [bignat_Parse.j0] at H
   by_cases c8 : x22_2 = true
   ·
    subst c8
    have H1 : (none) = some (r1, r2) := by rw [if_pos rfl] at H; exact H
    clear H
    have H := H1
    clear H1
    cases H
   replace c8 := Bool.eq_false_iff.mpr c8
   subst c8
   have H1 : (bignat_Parse.l0 kj2 a0 ([] : List Int) 0) = some (r1, r2) := by rw [if_neg (show ¬ (false = true) by decide)] at H; exact H
   clear H
   have H := H1
   clear H1
   have H' := zA H
   clear H
   go_wp2
   go_loopg [4, 5] kj2 (fun kq v4 v5 w' => ∃ (x4_2 : List Int) (x5_2 : Int), v5 = .int .i64 x5_2 ∧ Aside0 (bignat_Parse.l0 kq a0 x4_2 x5_2 = some (r1, r2)) ∧ Aside0 (kq ≤ kj2) ∧ Aside0 (Kd.R (Kd.int .u32) 37 w' w.heap.size (fun _ => True) v4 x4_2) ∧ Aside0 (Below w.heap.size w w'))
   case atStart => exact ⟨(([] : List Int)), (0), zS, H', ⟨Nat.le_refl _⟩, ⟨by first | exact Kd.R_nil _ _ _ _ _ | exact Kd.V_nil _ _ _ _ _⟩, ⟨zH⟩⟩
   case round =>
    clear H'
    try clear c2
    try clear c2b0
    try clear c2b1
    try clear p2
    try clear c4
    try clear c4b0
    try clear c4b1
    try clear c5
    try clear c5b0
    try clear c5b1
    try clear p6
    try clear q6
    try clear hx6
    try clear qi6
    try clear c7
    try clear c7b0
    try clear c7b1
    try clear c8
    try clear p2
    try clear p6
    try clear q6
    obtain ⟨x4_2, x5_2, rfl, HA, HK2, HO_4, HB⟩ := hrel
    cases gk with
    | zero => exact absurd HA.out (by simp [bignat_Parse.l0])
    | succ k2 =>
     have H := HA.out
     clear HA
     simp only [bignat_Parse.l0] at H
     by_cases c9 : x5_2 < (a0.size : Int)
     ·
      rw [if_pos c9] at H
      have c9b0 := decide_eq_true c9
      clear c9
      by_cases c10 : 0 ≤ x5_2
      ·
       rw [if_pos c10] at H
       have c10b0 := decide_eq_true c10
       clear c10
       by_cases c12 : (bt a0 x5_2) < 48
       ·
        rw [if_pos c12] at H
        cases H
       rw [if_neg c12] at H
       have c12b0 := decide_eq_false c12
       clear c12
       by_cases c14 : (bt a0 x5_2) > 57
       ·
        rw [if_pos c14] at H
        cases H
       rw [if_neg c14] at H
       have c14b0 : decide (57 < (bt a0 x5_2)) = false := decide_eq_false c14
       clear c14
       have H' := zA H
       clear H
       have p11 : 0 ≤ (x5_2 : Int) := zD
       have q11 : x5_2 < (a0.size : Int) := zD
       have hx11 := bt_at a0 x5_2
       replace p11 := eq_true p11
       replace q11 := eq_true q11
       have p13 : 0 ≤ (x5_2 : Int) := zD
       have q13 : x5_2 < (a0.size : Int) := zD
       have hx13 := bt_at a0 x5_2
       replace p13 := eq_true p13
       replace q13 := eq_true q13
       have p15 : 0 ≤ (x5_2 : Int) := zD
       have q15 : x5_2 < (a0.size : Int) := zD
       have hx15 := bt_at a0 x5_2
       replace p15 := eq_true p15
       replace q15 := eq_true q15
       obtain ⟨Ao16, co16, eo16⟩ := Kd.R_slice HO_4.out
       subst eo16
       go_wp2
       go_loopg [6, 46] k2 (fun kq v6 v46 w' => ∃ (x4_3 : List Int) (x6_3 : Int) (x46_3 : Int), v6 = .int .u64 x6_3 ∧ v46 = .int .i64 x46_3 ∧ Aside0 (bignat_Parse.l1 kq a0 x4_3 x5_2 x6_3 (x4_2.length : Int) x46_3 = some (r1, r2)) ∧ Aside0 (kq ≤ k2) ∧ Aside0 (Kd.R (Kd.int .u32) 37 w' w.heap.size (fun _ => True) (.slice Ao16 x4_2.length co16) x4_3) ∧ Aside0 (Below w.heap.size w w'))
       case atStart => exact ⟨(x4_2), (((bt a0 x5_2) - 48) % 256), (0), zS, zS, H', ⟨Nat.le_refl _⟩, ⟨zR HO_4.out⟩, ⟨zH⟩⟩
       case round =>
        clear H'
        try clear c1
        try clear p1
        try clear q1
        try clear hx1
        try clear c2
        try clear c2b0
        try clear c2b1
        try clear p2
        try clear c4
        try clear c4b0
        try clear c4b1
        try clear c5
        try clear c5b0
        try clear c5b1
        try clear p6
        try clear q6
        try clear hx6
        try clear qi6
        try clear c7
        try clear c7b0
        try clear c7b1
        try clear c8
        try clear c9
        try clear c9b0
        try clear c10
        try clear c10b0
        try clear p11
        try clear q11
        try clear hx11
        try clear c12
        try clear c12b0
        try clear p13
        try clear q13
        try clear hx13
        try clear c14
        try clear c14b0
        try clear p15
        try clear q15
        try clear hx15
        try clear p11
        try clear p13
        try clear p15
        try clear p2
        try clear p6
        try clear q11
        try clear q13
        try clear q15
        try clear q6
        obtain ⟨x4_3, x6_3, x46_3, rfl, rfl, HA, HK3, HO_4, HB⟩ := hrel
        have hl4_3 := (Kd.R_reads' HO_4.out).1
        rw [hl4_3] at HO_4
        (try simp only [hl4_3])
        cases gk with
        | zero => exact absurd HA.out (by simp [bignat_Parse.l1])
        | succ k3 =>
         have H := HA.out
         clear HA
         simp only [bignat_Parse.l1] at H
         by_cases c17 : x46_3 < (x4_2.length : Int)
         ·
          rw [if_pos c17] at H
          have c17b0 := decide_eq_true c17
          (try (have c17b0h := c17b0; simp only [hl4_3] at c17b0h))
          clear c17
          by_cases c18 : 0 ≤ x46_3
          ·
           rw [if_pos c18] at H
           have c18b0 := decide_eq_true c18
           clear c18
           by_cases c19 : x46_3 < (x4_3.length : Int)
           ·
            rw [if_pos c19] at H
            have c19b0 := decide_eq_true c19
            (try (have c19b0h := c19b0; simp only [hl4_3] at c19b0h))
            clear c19
            obtain ⟨y334, hy334⟩ : ∃ y_ : List Int, y_ = (x4_3.set (x46_3 : Int).toNat ((IntKind.u64.wrap (x6_3 + (IntKind.u64.wrap (10 * (IntKind.u64.wrap (rd x4_3 x46_3)))))) % 4294967296)) := ⟨_, rfl⟩
            replace H : (bignat_Parse.l1 k3 a0 y334 x5_2 ((IntKind.u64.wrap (x6_3 + (IntKind.u64.wrap (10 * (IntKind.u64.wrap (rd x4_3 x46_3)))))) / 4294967296) (x4_2.length : Int) (wrap64 (x46_3 + 1))) = some (r1, r2) := by first | (rw [hy334]; with_reducible exact H) | (have H2_ := (Option.bind_some _ _).symm.trans H; rw [hy334]; with_reducible exact H2_) | (have H2_ := (Option.bind_some _ _).symm.trans H; with_reducible exact H2_) | with_reducible exact H | (rw [hy334]; exact H) | exact H
            have Ny334 := zA hy334
            clear hy334
            have H' := zA H
            clear H
            have p333 : 0 ≤ (x46_3 : Int) := zD
            have q333 : x46_3 < (x4_3.length : Int) := zD
            obtain ⟨ad333, e333, hx333_0⟩ := Kd.at_int (Kd.R_reads' HO_4.out).2.2 x46_3 p333 q333
            cases e333
            replace p333 := eq_true p333
            replace q333 := eq_true q333
            have p20 : 0 ≤ (x46_3 : Int) := zD
            have q20 : (x46_3 : Int) < ((x4_3.length : Int) : Int) := zD
            obtain ⟨go20, co20, eo20, gb20, gl20, cl20, HG20⟩ := Kd.R_form HO_4.out (by omega)
            (first | cases eo20 | (injection eo20 with ea_ en_ ec_; (first | subst ea_ | (injection ea_ with ea_; subst ea_)); subst ec_; clear en_))
            have GB20 := zA gb20
            have GG20 := zA HG20
            clear gb20 gl20 HG20
            (first | simp only [add_plain] at hx333_0 | skip)
            obtain ⟨hx20_0, hf20_0⟩ := Kd.R_celln 0 HO_4.out (x46_3 : Int) p20 q20
            replace p20 := eq_true p20
            replace q20 := eq_true q20
            obtain ⟨hy21_, hz21_⟩ := Kd.R_celln 0 HO_4.out (x46_3 : Int) zD zD
            have HP21 := Kd.R_putg HO_4.out (x46_3 : Int) ((IntKind.u64.wrap (x6_3 + (IntKind.u64.wrap (10 * (IntKind.u64.wrap (rd x4_3 x46_3)))))) % 4294967296)
            go_wp2_with (first | ((with_reducible refine gate_store (t := 37) (p := 61) rfl ?_); refine store_event (t := 37) (p := 61) (v := ?vo_w22) (w1 := (wr.setCell ⟨go20, (x46_3 : Int).toNat, none⟩ (.int .u32 ((IntKind.u64.wrap (x6_3 + (IntKind.u64.wrap (10 * (IntKind.u64.wrap (rd x4_3 x46_3)))))) % 4294967296)))) ?hg ?ho ?hn ?hr ?_; (case ho => rfl); (case hg => rfl); (case hn => rfl); (case hr => first | (go_simp; done) | (go_simp; rfl)); intro w22 hw; have hg : wr.grownBy w22 (some go20) := (by rw [hw]; exact HP21.2); have hp_ : Kd.R (Kd.int .u32) 37 w22 w.heap.size (fun _ => True) (.slice (some ⟨go20, 0, none⟩) x4_3.length co16) y334 := (by rw [hw, Ny334.out]; exact HP21.1); clear HP21; replace HO_4 := zA (hp_); replace HB := zA ((by rw [hw]; exact below_set (HB.out) GB20.out : Below w.heap.size w w22)); clear hg hw hp_))
            (try simp only [← hl4_3])
            go_roundg k3
            case measure => have := HJ2.out; have := HK2.out; have := HK3.out; omega
            case rel => exact ⟨(y334), ((IntKind.u64.wrap (x6_3 + (IntKind.u64.wrap (10 * (IntKind.u64.wrap (rd x4_3 x46_3)))))) / 4294967296), (wrap64 (x46_3 + 1)), zS, zS, H', ⟨by have := HJ2.out; have := HK2.out; have := HK3.out; omega⟩, ⟨by (try simp only [hl4_3]); (with_reducible repeat (first | apply Kd.R_alloc | apply Kd.R_drewN | apply Kd.R_drew)); exact HO_4.out⟩, ⟨zH⟩⟩
           rw [if_neg c19] at H
           cases H
          rw [if_neg c18] at H
          cases H
         rw [if_neg c17] at H
         have c17b0 := decide_eq_false c17
         (try (have c17b0h := c17b0; simp only [hl4_3] at c17b0h))
         clear c17
         by_cases c23 : x6_3 > 0
         ·
          rw [if_pos c23] at H
          have c23b0 : decide (0 < x6_3) = true := decide_eq_true c23
          clear c23
          by_cases c24 : x4_3.length < 35184372088832
          ·
           rw [if_pos c24] at H
           have LMc24 := zA c24
           clear c24
           obtain ⟨y335, hy335⟩ : ∃ y_ : List Int, y_ = (x4_3 ++ [(x6_3) % 4294967296]) := ⟨_, rfl⟩
           replace H : (bignat_Parse.l0 k3 a0 y335 (wrap64 (x5_2 + 1))) = some (r1, r2) := by first | (rw [hy335]; with_reducible exact H) | (have H2_ := (Option.bind_some _ _).symm.trans H; rw [hy335]; with_reducible exact H2_) | (have H2_ := (Option.bind_some _ _).symm.trans H; with_reducible exact H2_) | with_reducible exact H | (rw [hy335]; exact H) | exact H
           have Ny335 := zA hy335
           clear hy335
           have H' := zA H
           clear H
           go_wp2_with (first | ((with_reducible refine gate_builtin (b := .append) (xs := #[.tmp 67, .tmp 70]) rfl ?_); (try (refine gate_guard (by rfl) ?_; dsimp only)); at_builtin; refine Kd.R_append (Kd.int .u32) (w0 := w) w.heap.size rfl (.tmp 67) (.tmp 70) 23 37 (.int .u32 0) 4 rfl Tryd.underlying23 info37 rfl (by decide) (by omega) (.slice Ao16 x4_3.length co16) x4_3 ((x6_3) % 4294967296) [.int .u32 ((x6_3) % 4294967296)] (fun _ => True) (fun _ => False) rfl rfl ?aP (fun _ hk => hk.elim) ?aF ?aO ?aB ?aS ?aL ?_; (case aP => exact rfl); (case aB => exact zH); (case aF => exact (fun _ _ => trivial)); (case aO => exact (zR HO_4.out)); (case aS => exact (below_size zH)); (case aL => have := LMc24.out; omega); intro v336 w25 ho hb hg hat; rw [← Ny335.out] at ho; replace HB := zA (hb); have HO337 := zA (ho); clear HO_4; clear ho hb hg hat))
           (try simp only [← hl4_3])
           go_roundg k3
           case measure => have := HJ2.out; have := HK2.out; have := HK3.out; omega
           case rel => exact ⟨(y335), (wrap64 (x5_2 + 1)), zS, H', ⟨by have := HJ2.out; have := HK2.out; have := HK3.out; omega⟩, ⟨by (try simp only [hl4_3]); (with_reducible repeat (first | apply Kd.R_alloc | apply Kd.R_drewN | apply Kd.R_drew)); exact HO337.out⟩, ⟨zH⟩⟩
          rw [if_neg c24] at H
          cases H
         rw [if_neg c23] at H
         have c23b0 : decide (0 < x6_3) = false := decide_eq_false c23
         clear c23
         have H' := zA H
         clear H
         go_wp2
         (try simp only [← hl4_3])
         go_roundg k3
         case measure => have := HJ2.out; have := HK2.out; have := HK3.out; omega
         case rel => exact ⟨(x4_3), (wrap64 (x5_2 + 1)), zS, H', ⟨by have := HJ2.out; have := HK2.out; have := HK3.out; omega⟩, ⟨by (try simp only [hl4_3]); (with_reducible repeat (first | apply Kd.R_alloc | apply Kd.R_drewN | apply Kd.R_drew)); exact HO_4.out⟩, ⟨zH⟩⟩
      rw [if_neg c10] at H
      cases H
     rw [if_neg c9] at H
     have c9b0 := decide_eq_false c9
     clear c9
     simp only [Option.some.injEq, Prod.mk.injEq] at H
     obtain ⟨rfl, rfl⟩ := H
     go_wp2
     go_ret2
     exact ⟨_, zE, zR HO_4.out, zH⟩

def rational_number.f (k : Nat) (a0 : ByteArray) : Option (List Int) := (strings_TrimLeft.f k a0 (⟨#[48]⟩ : ByteArray)).bind fun t338 => (if t338.toList = ([] : List UInt8) then (none) else ((bignat_Parse.f k t338).bind fun bt339 => (some bt339.1)))
theorem rational_number.mono : ∀ a0 k, LeO (rational_number.f k a0) (rational_number.f (k + 1) a0) := by
 intro a0 k
 unfold rational_number.f
 exact zm2 bignat_Parse.mono strings_TrimLeft.mono
set_option maxHeartbeats 8000000 in
set_option maxRecDepth 100000 in
theorem rational_number.calls (k : Nat) (a0 : ByteArray) (r : List Int) (w : World) (h : rational_number.f k a0 = some r) :
 Calls Tryd.prog 55 #[.string a0] w fun e w' => ∃ v0_ : Value, e = .returned (v0_) ∧ Kd.R (Kd.int .u32) 37 w' w.heap.size (fun _ => True) v0_ r ∧ Below w.heap.size w w' := by
 have HB := zA (Below.refl w.heap.size w)
 have H : ((strings_TrimLeft.f k a0 (⟨#[48]⟩ : ByteArray)).bind fun t338 => (if t338.toList = ([] : List UInt8) then (none) else ((bignat_Parse.f k t338).bind fun bt339 => (some bt339.1)))) = some r := h
 clear h
 obtain ⟨t338, A20, H⟩ := zi H
 replace H : (if t338.toList = ([] : List UInt8) then (none) else ((bignat_Parse.f k t338).bind fun bt339 => (some bt339.1))) = some r := H
 have A2 := zA A20
 clear A20
 by_cases c3 : t338.toList = ([] : List UInt8)
 ·
  rw [if_pos c3] at H
  cases H
 rw [if_neg c3] at H
 have c3b0 := beq_eq_false_iff_ne.mpr c3
 have c3b1 := bne_iff_ne.mpr c3
 obtain ⟨⟨t339, t340⟩, A40, H⟩ := zi H
 replace H : (some t339) = some r := H
 have A4 := zA A40
 clear A40
 obtain rfl := Option.some.inj H
 go_enter Tryd.func55, Tryd.ntmps55
 go_wp2_with (first | ((with_reducible refine gate_callee (f := 84) rfl ?_); refine goesL_ (some 6) rfl rfl Tryd.func84 zk rfl #[.string a0, .string (⟨#[48]⟩ : ByteArray)] rfl (by (try simp only [List.map_toArray, List.map_cons, List.map_nil]); first | done | rfl | (simp only [List.length_drop, List.length_take]; rfl) | (go_simp; done) | (go_simp; rfl) | (go_simp; (try simp only [IntKind.wrap_u8, IntKind.wrap_u32, IntKind.wrap_u64]); omega)) ?_; (with_reducible refine (strings_TrimLeft.calls k a0 (⟨#[48]⟩ : ByteArray) t338 _ A2.out).mono ?_); rintro e w' ⟨rfl, ⟨nd, rfl⟩⟩; refine ⟨_, rfl, ?_⟩) | ((with_reducible refine gate_callee (f := 85) rfl ?_); refine goesL_ (some 11) rfl rfl Tryd.func85 zk rfl #[.string t338] rfl (by (try simp only [List.map_toArray, List.map_cons, List.map_nil]); first | done | rfl | (simp only [List.length_drop, List.length_take]; rfl) | (go_simp; done) | (go_simp; rfl) | (go_simp; (try simp only [IntKind.wrap_u8, IntKind.wrap_u32, IntKind.wrap_u64]); omega)) ?_; (with_reducible refine (bignat_Parse.calls k t338 t339 t340 _ A4.out).mono ?_); rintro e w5 ⟨v341, rfl, ho0, hb⟩; refine ⟨_, rfl, ?_⟩; have HO342 := zA (Kd.R_lower ho0 (below_size zH)); replace HB := zA (below_step zH hb); (try clear hb); (try clear hb2); (try clear hk); (try clear hi); (try clear ho0)))
 go_ret
 exact ⟨_, zE, zR HO342.out, zH⟩

mutual
def bignat_Mul.j0 : Nat → List Int → List Int → Bool → Option (List Int)
 | 0, _, _, _ => none
 | k + 1, x0, x1, x22 => if x22 = true then (some ([] : List Int)) else (if 0 ≤ (wrap64 ((x0.length : Int) + (x1.length : Int))) then (if (wrap64 ((x0.length : Int) + (x1.length : Int)) : Int).toNat ≤ 70368744177664 then (bignat_Mul.l0 k x1 (List.replicate (wrap64 ((x0.length : Int) + (x1.length : Int)) : Int).toNat 0) x0 (x0.length : Int) 0) else (none)) else (none))
def bignat_Mul.l0 : Nat → List Int → List Int → List Int → Int → Int → Option (List Int)
 | 0, _, _, _, _, _ => none
 | k + 1, x1, x5, x29, x30, x31 => if x31 < x30 then (if 0 ≤ x31 then (if x31 < (x29.length : Int) then (bignat_Mul.l1 k x1 x5 x31 (rd x29 x31) 0 x29 x30 x31 x1 (x1.length : Int) 0) else (none)) else (none)) else ((bignat_trim.f k x5).bind fun t352 => (some t352))
def bignat_Mul.l1 : Nat → List Int → List Int → Int → Int → Int → List Int → Int → Int → List Int → Int → Int → Option (List Int)
 | 0, _, _, _, _, _, _, _, _, _, _, _ => none
 | k + 1, x1, x5, x6, x7, x8, x29, x30, x31, x36, x37, x38 => if x38 < x37 then (if 0 ≤ x38 then (if x38 < (x36.length : Int) then (if 0 ≤ (wrap64 (x6 + x38)) then (if (wrap64 (x6 + x38)) < (x5.length : Int) then (bignat_Mul.l1 k x1 (x5.set ((wrap64 (x6 + x38)) : Int).toNat ((IntKind.u64.wrap (x8 + (IntKind.u64.wrap ((IntKind.u64.wrap ((IntKind.u64.wrap (x7)) * (IntKind.u64.wrap (rd x36 x38)))) + (IntKind.u64.wrap (rd x5 (wrap64 (x6 + x38)))))))) % 4294967296)) x6 x7 ((IntKind.u64.wrap (x8 + (IntKind.u64.wrap ((IntKind.u64.wrap ((IntKind.u64.wrap (x7)) * (IntKind.u64.wrap (rd x36 x38)))) + (IntKind.u64.wrap (rd x5 (wrap64 (x6 + x38)))))))) / 4294967296) x29 x30 x31 x36 x37 (wrap64 (x38 + 1))) else (none)) else (none)) else (none)) else (none)) else (if 0 ≤ (wrap64 (x6 + (x1.length : Int))) then (if (wrap64 (x6 + (x1.length : Int))) < (x5.length : Int) then (bignat_Mul.l0 k x1 (x5.set ((wrap64 (x6 + (x1.length : Int))) : Int).toNat ((x8) % 4294967296)) x29 x30 (wrap64 (x31 + 1))) else (none)) else (none))
end
def bignat_Mul.f (k : Nat) (l0 : List Int) (l1 : List Int) : Option (List Int) := (bignat_trim.f k l0).bind fun t343 => ((bignat_trim.f k l1).bind fun t346 => (if (t343.length : Int) = 0 then (bignat_Mul.j0 k t343 t346 true) else (bignat_Mul.j0 k t343 t346 ((t346.length : Int) == 0))))
theorem bignat_Mul.mono_l : ∀ k, (∀ y0 y1 y2, LeO (bignat_Mul.j0 k y0 y1 y2) (bignat_Mul.j0 (k + 1) y0 y1 y2)) ∧ (∀ y0 y1 y2 y3 y4, LeO (bignat_Mul.l0 k y0 y1 y2 y3 y4) (bignat_Mul.l0 (k + 1) y0 y1 y2 y3 y4)) ∧ (∀ y0 y1 y2 y3 y4 y5 y6 y7 y8 y9 y10, LeO (bignat_Mul.l1 k y0 y1 y2 y3 y4 y5 y6 y7 y8 y9 y10) (bignat_Mul.l1 (k + 1) y0 y1 y2 y3 y4 y5 y6 y7 y8 y9 y10))
 | 0 => ⟨fun _ _ _ r h => by simp [bignat_Mul.j0] at h, fun _ _ _ _ _ r h => by simp [bignat_Mul.l0] at h, fun _ _ _ _ _ _ _ _ _ _ _ r h => by simp [bignat_Mul.l1] at h⟩
 | k + 1 => by
  obtain ⟨ih0, ih1, ih2⟩ := bignat_Mul.mono_l k
  refine ⟨?_, ?_, ?_⟩
  ·
   intro y0 y1 y2
   unfold bignat_Mul.j0
   exact zm4 ih0 ih1 ih2 bignat_trim.mono
  ·
   intro y0 y1 y2 y3 y4
   unfold bignat_Mul.l0
   exact zm4 ih0 ih1 ih2 bignat_trim.mono
  intro y0 y1 y2 y3 y4 y5 y6 y7 y8 y9 y10
  unfold bignat_Mul.l1
  exact zm4 ih0 ih1 ih2 bignat_trim.mono
theorem bignat_Mul.mono : ∀ a0 a1 k, LeO (bignat_Mul.f k a0 a1) (bignat_Mul.f (k + 1) a0 a1) := by
 intro a0 a1 k
 obtain ⟨ih0, ih1, ih2⟩ := bignat_Mul.mono_l k
 unfold bignat_Mul.f
 exact zm4 ih0 ih1 ih2 bignat_trim.mono
set_option maxHeartbeats 8000000 in
set_option maxRecDepth 100000 in
theorem bignat_Mul.calls (k : Nat) (A0 : Option Addr) (c0 : Nat) (l0 : List Int) (A1 : Option Addr) (c1 : Nat) (l1 : List Int) (r : List Int) (w : World) (hr0 : Kd.C (Kd.int .u32) w A0 l0.length l0) (hc0 : l0.length ≤ c0) (hr1 : Kd.C (Kd.int .u32) w A1 l1.length l1) (hc1 : l1.length ≤ c1) (h : bignat_Mul.f k l0 l1 = some r) :
 Calls Tryd.prog 33 #[.slice A0 l0.length c0, .slice A1 l1.length c1] w fun e w' => ∃ v0_ : Value, e = .returned (v0_) ∧ Kd.R (Kd.int .u32) 37 w' w.heap.size (fun _ => True) v0_ r ∧ Below w.heap.size w w' := by
 have HR0 := zA hr0
 have HC0 := zA hc0
 clear hr0 hc0
 have HR1 := zA hr1
 have HC1 := zA hc1
 clear hr1 hc1
 have HB := zA (Below.refl w.heap.size w)
 have H : ((bignat_trim.f k l0).bind fun t343 => ((bignat_trim.f k l1).bind fun t346 => (if (t343.length : Int) = 0 then (bignat_Mul.j0 k t343 t346 true) else (bignat_Mul.j0 k t343 t346 ((t346.length : Int) == 0))))) = some r := h
 clear h
 obtain ⟨t343, A30, H⟩ := zi H
 replace H : ((bignat_trim.f k l1).bind fun t346 => (if (t343.length : Int) = 0 then (bignat_Mul.j0 k t343 t346 true) else (bignat_Mul.j0 k t343 t346 ((t346.length : Int) == 0)))) = some r := H
 have A3 := zA A30
 clear A30
 obtain ⟨t346, A40, H⟩ := zi H
 replace H : (if (t343.length : Int) = 0 then (bignat_Mul.j0 k t343 t346 true) else (bignat_Mul.j0 k t343 t346 ((t346.length : Int) == 0))) = some r := H
 have A4 := zA A40
 clear A40
 have HC5 := zA H
 clear H
 go_enter Tryd.func33, Tryd.ntmps33
 go_upto_region 2 with (first | ((with_reducible refine gate_callee (f := 71) rfl ?_); refine goesL_ (some 12) rfl rfl Tryd.func71 zk rfl #[.slice A0 l0.length c0] rfl zX ?_; (with_reducible refine (bignat_trim.calls k (fun k_ => k_ < w.heap.size) _ _ l0 t343 _ ?side1 A3.out).mono ?_); (case side1 => exact Kd.V_mk HC0.out (Kd.F_below (Kd.C_F (Kd.heap_int .u32) HR0.out) (zb HB rfl))); rintro e w6 ⟨v344, rfl, ho0, hb⟩; refine ⟨_, rfl, ?_⟩; have HO345 := zA (Kd.V_lower (Kd.V_mono (ok' := fun k_ => True) ho0 (fun k_ hk_ => trivial)) (below_size (zb HB rfl))); replace HB := zbb HB hb rfl) | ((with_reducible refine gate_callee (f := 71) rfl ?_); refine goesL_ (some 14) rfl rfl Tryd.func71 zk rfl #[.slice A1 l1.length c1] rfl zX ?_; (with_reducible refine (bignat_trim.calls k (fun k_ => k_ < w.heap.size) _ _ l1 t346 _ ?side1 A4.out).mono ?_); (case side1 => exact Kd.V_mk HC1.out (Kd.F_below (Kd.C_F (Kd.heap_int .u32) HR1.out) (zb HB rfl))); rintro e w7 ⟨v347, rfl, ho0, hb⟩; refine ⟨_, rfl, ?_⟩; replace HO345 := zA (Kd.V_below (zv HO345 rfl) hb); have HO348 := zA (Kd.V_lower (Kd.V_mono (ok' := fun k_ => True) ho0 (fun k_ hk_ => trivial)) (below_size (zb HB rfl))); replace HB := zbb HB hb rfl))
 (try simp only [Act.put, List.setIfInBounds_toArray, List.set_cons_zero, List.set_cons_succ])
 go_cut [22] (fun v22 wc => ∃ (kq : Nat) (x22_4 : Bool), v22 = .bool x22_4 ∧ Aside0 (bignat_Mul.j0 kq t343 t346 x22_4 = some r) ∧ Aside0 (kq ≤ k) ∧ Aside0 (Kd.V (Kd.int .u32) 37 wc w.heap.size (fun _ => True) v344 t343) ∧ Aside0 (Kd.V (Kd.int .u32) 37 wc w.heap.size (fun _ => True) v347 t346) ∧ Aside0 (Below w.heap.size w wc))
 case first =>
  have H := HC5.out
  clear HC5
  by_cases c8 : (t343.length : Int) = 0
  ·
   rw [if_pos c8] at H
   have c8b0 := beq_iff_eq.mpr c8
   have c8b1 := bne_eq_false_iff_eq.mpr c8
   clear c8
   (first | rw [c8b0] | rw [c8b1] | (simp only [i64_w, i32_w]; rw [c8b0]) | skip)
   have H' := zA H
   clear H
   obtain ⟨Ao9, co9, eo9⟩ := Kd.V_slice HO345.out
   subst eo9
   go_wp2
   go_meet
   case rel => exact ⟨_, (true), zS, H', ⟨by first | omega | exact Nat.le_refl _⟩, ⟨zV HO345.out⟩, ⟨zV HO348.out⟩, ⟨zH⟩⟩
  rw [if_neg c8] at H
  have c8b0 := beq_eq_false_iff_ne.mpr c8
  have c8b1 := bne_iff_ne.mpr c8
  have c8b2 : ¬ (t343 = []) := fun h_ => c8 (by rw [h_]; rfl)
  (first | rw [c8b0] | rw [c8b1] | (simp only [i64_w, i32_w]; rw [c8b0]) | skip)
  have H' := zA H
  clear H
  obtain ⟨Ao10, co10, eo10⟩ := Kd.V_slice HO345.out
  subst eo10
  obtain ⟨Ao11, co11, eo11⟩ := Kd.V_slice HO348.out
  subst eo11
  go_wp2
  go_meet
  case rel => exact ⟨_, (((t346.length : Int) == 0)), zS, H', ⟨by first | omega | exact Nat.le_refl _⟩, ⟨zV HO345.out⟩, ⟨zV HO348.out⟩, ⟨zH⟩⟩
 case rest =>
  clear HC5
  try clear c1
  try clear p2
  try clear c3
  try clear c7
  try clear c8
  try clear c8b0
  try clear c8b1
  try clear c8b2
  obtain ⟨kq, x22_4, rfl, HA, HJ4, HO_0, HO_1, HB⟩ := hcut
  cases kq with
  | zero => exact absurd HA.out (by simp [bignat_Mul.j0])
  | succ kj4 =>
   have H := HA.out
   clear HA
   simp only [bignat_Mul.j0] at H
   by_cases c12 : x22_4 = true
   ·
    subst c12
    have H1 : (some ([] : List Int)) = some r := by rw [if_pos rfl] at H; exact H
    clear H
    have H := H1
    clear H1
    obtain rfl := Option.some.inj H
    go_wp2
    go_ret
    exact ⟨_, zE, by first | exact Kd.R_nil _ _ _ _ _ | exact Kd.V_nil _ _ _ _ _, zH⟩
   replace c12 := Bool.eq_false_iff.mpr c12
   subst c12
   have H1 : (if 0 ≤ (wrap64 ((t343.length : Int) + (t346.length : Int))) then (if (wrap64 ((t343.length : Int) + (t346.length : Int)) : Int).toNat ≤ 70368744177664 then (bignat_Mul.l0 kj4 t346 (List.replicate (wrap64 ((t343.length : Int) + (t346.length : Int)) : Int).toNat 0) t343 (t343.length : Int) 0) else (none)) else (none)) = some r := by rw [if_neg (show ¬ (false = true) by decide)] at H; exact H
   clear H
   have H := H1
   clear H1
   obtain ⟨ji13, hji13⟩ : ∃ j_ : Int, (wrap64 ((t343.length : Int) + (t346.length : Int))) = j_ := ⟨_, rfl⟩
   replace H : (if 0 ≤ (ji13) then (if (ji13 : Int).toNat ≤ 70368744177664 then (bignat_Mul.l0 kj4 t346 (List.replicate (ji13 : Int).toNat 0) t343 (t343.length : Int) 0) else (none)) else (none)) = some r := by first | (rw [hji13] at H; exact H) | (simp only [hji13] at H ⊢; exact H)
   have hji13w : (IntKind.i64.wrap ((t343.length : Int) + (t346.length : Int))) = ji13 := (i64_w _).trans hji13
   by_cases c14 : 0 ≤ (ji13)
   ·
    rw [if_pos c14] at H
    have c14b0 := eq_true c14
    have c14b1 := decide_eq_true c14
    clear c14
    by_cases c15 : (ji13 : Int).toNat ≤ 70368744177664
    ·
     rw [if_pos c15] at H
     have c15b0 := eq_true c15
     have c15b1 := decide_eq_true c15
     clear c15
     obtain ⟨y349, hy349⟩ : ∃ y_ : List Int, y_ = (List.replicate (ji13 : Int).toNat 0) := ⟨_, rfl⟩
     replace H : (bignat_Mul.l0 kj4 t346 y349 t343 (t343.length : Int) 0) = some r := by first | (rw [hy349]; with_reducible exact H) | (have H2_ := (Option.bind_some _ _).symm.trans H; rw [hy349]; with_reducible exact H2_) | (have H2_ := (Option.bind_some _ _).symm.trans H; with_reducible exact H2_) | with_reducible exact H | (rw [hy349]; exact H) | exact H
     have Ny349 := zA hy349
     clear hy349
     have H' := zA H
     clear H
     obtain ⟨Ao16, co16, eo16⟩ := Kd.V_slice HO_0.out
     subst eo16
     obtain ⟨Ao17, co17, eo17⟩ := Kd.V_slice HO_1.out
     subst eo17
     go_wp2_with (first | ((with_reducible refine gate_dst (N := 28) rfl ?_); (try (refine gate_guard (by rfl) ?_; dsimp only)); refine Kd.R_make (Kd.int .u32) _ 37 rfl (N := 28) rfl 23 _ _ rfl ji13 rfl rfl Tryd.underlying23 (.int .u32 0) 4 info37 rfl (by decide) (by omega) 0 (ok := fun _ => True) (okp := fun _ => True) rfl (fun _ hk => hk) trivial zD (Nat.le_trans (Nat.mul_le_mul_right _ (zD : ji13.toNat ≤ 70368744177664)) (by omega)) (Below.refl _ _) (Nat.le_refl _) ?_; intro v350 w18 ho19 hb hg_ hnew_; clear hg_ hnew_; (first | rw [← Ny349.out] at ho19 | (simp only [Int.reduceToNat] at ho19; rw [← Ny349.out] at ho19)); replace HO_0 := zA (Kd.V_elder' (zv HO_0 rfl) (Kd.R_base ho19) hb); replace HO_1 := zA (Kd.V_elder' (zv HO_1 rfl) (Kd.R_base ho19) hb); have HO351 := zA (Kd.R_lower ho19 (below_size (zb HB rfl))); replace HB := zbb HB hb rfl; clear hb ho19))
     go_loopg [31] kj4 (fun kq v31 w' => ∃ (x5_2 : List Int) (x31_2 : Int), v31 = .int .i64 x31_2 ∧ Aside0 (bignat_Mul.l0 kq t346 x5_2 t343 (t343.length : Int) x31_2 = some r) ∧ Aside0 (kq ≤ kj4) ∧ Aside0 (Kd.V (Kd.int .u32) 37 w' w.heap.size (fun k_ => some k_ ≠ (v350 : Value).ownBlock) (.slice Ao17 t346.length co17) t346) ∧ Aside0 (Kd.R (Kd.int .u32) 37 w' w.heap.size (fun _ => True) v350 x5_2) ∧ Aside0 (Kd.V (Kd.int .u32) 37 w' w.heap.size (fun k_ => some k_ ≠ (v350 : Value).ownBlock) (.slice Ao16 t343.length co16) t343) ∧ Aside0 (Below w.heap.size w w'))
     case atStart => exact ⟨(y349), (0), zS, H', ⟨Nat.le_refl _⟩, ⟨zVM HO_1.out (fun _ hk => hk.2)⟩, ⟨zR HO351.out⟩, ⟨zVM HO_0.out (fun _ hk => hk.2)⟩, ⟨zH⟩⟩
     case round =>
      clear H'
      try clear c1
      try clear p2
      try clear c3
      try clear p6
      try clear c7
      try clear c8
      try clear c8b0
      try clear c8b1
      try clear c8b2
      try clear c12
      try clear c14
      try clear c14b0
      try clear c14b1
      try clear c15
      try clear c15b0
      try clear c15b1
      try clear p2
      obtain ⟨x5_2, x31_2, rfl, HA, HK2, HO_1, HO_5, HO_29, HB⟩ := hrel
      cases gk with
      | zero => exact absurd HA.out (by simp [bignat_Mul.l0])
      | succ k2 =>
       have H := HA.out
       clear HA
       simp only [bignat_Mul.l0] at H
       by_cases c20 : x31_2 < (t343.length : Int)
       ·
        rw [if_pos c20] at H
        have c20b0 := decide_eq_true c20
        clear c20
        by_cases c21 : 0 ≤ x31_2
        ·
         rw [if_pos c21] at H
         have c21b0 := decide_eq_true c21
         clear c21
         by_cases c22 : x31_2 < (t343.length : Int)
         ·
          rw [if_pos c22] at H
          have c22b0 := decide_eq_true c22
          clear c22
          have H' := zA H
          clear H
          have p355 : 0 ≤ (x31_2 : Int) := zD
          have q355 : x31_2 < (t343.length : Int) := zD
          obtain ⟨ad355, e355, hx355_0⟩ := Kd.at_int (Kd.V_reads' HO_29.out).2.2 x31_2 p355 q355
          cases e355
          replace p355 := eq_true p355
          replace q355 := eq_true q355
          go_wp2
          go_loopg [8, 38] k2 (fun kq v8 v38 w' => ∃ (x5_3 : List Int) (x8_3 : Int) (x38_3 : Int), v8 = .int .u64 x8_3 ∧ v38 = .int .i64 x38_3 ∧ Aside0 (bignat_Mul.l1 kq t346 x5_3 x31_2 (rd t343 x31_2) x8_3 t343 (t343.length : Int) x31_2 t346 (t346.length : Int) x38_3 = some r) ∧ Aside0 (kq ≤ k2) ∧ Aside0 (Kd.V (Kd.int .u32) 37 w' w.heap.size (fun k_ => some k_ ≠ (v350 : Value).ownBlock) (.slice Ao17 t346.length co17) t346) ∧ Aside0 (Kd.R (Kd.int .u32) 37 w' w.heap.size (fun _ => True) v350 x5_3) ∧ Aside0 (Kd.V (Kd.int .u32) 37 w' w.heap.size (fun k_ => some k_ ≠ (v350 : Value).ownBlock) (.slice (some ad355) t343.length co16) t343) ∧ Aside0 (Kd.V (Kd.int .u32) 37 w' w.heap.size (fun k_ => some k_ ≠ (v350 : Value).ownBlock) (.slice Ao17 t346.length co17) t346) ∧ Aside0 (Below w.heap.size w w'))
          case atStart => exact ⟨(x5_2), (0), (0), zS, zS, H', ⟨Nat.le_refl _⟩, ⟨zV HO_1.out⟩, ⟨zR HO_5.out⟩, ⟨zV HO_29.out⟩, ⟨zV HO_1.out⟩, ⟨zH⟩⟩
          case round =>
           clear H'
           try clear c1
           try clear c2
           try clear p2
           try clear c3
           try clear p3
           try clear q3
           try clear hx3
           try clear p6
           try clear c7
           try clear c8
           try clear c8b0
           try clear c8b1
           try clear c8b2
           try clear c12
           try clear c14
           try clear c14b0
           try clear c14b1
           try clear c15
           try clear c15b0
           try clear c15b1
           try clear c20
           try clear c20b0
           try clear c21
           try clear c21b0
           try clear c22
           try clear c22b0
           try clear hx355_0
           try clear p2
           try clear p355
           try clear p6
           try clear q355
           obtain ⟨x5_3, x8_3, x38_3, rfl, rfl, HA, HK3, HO_1, HO_5, HO_29, HO_36, HB⟩ := hrel
           cases gk with
           | zero => exact absurd HA.out (by simp [bignat_Mul.l1])
           | succ k3 =>
            have H := HA.out
            clear HA
            simp only [bignat_Mul.l1] at H
            by_cases c23 : x38_3 < (t346.length : Int)
            ·
             rw [if_pos c23] at H
             have c23b0 := decide_eq_true c23
             clear c23
             by_cases c24 : 0 ≤ x38_3
             ·
              rw [if_pos c24] at H
              have c24b0 := decide_eq_true c24
              clear c24
              by_cases c25 : x38_3 < (t346.length : Int)
              ·
               rw [if_pos c25] at H
               have c25b0 := decide_eq_true c25
               clear c25
               obtain ⟨ji26, hji26⟩ : ∃ j_ : Int, (wrap64 (x31_2 + x38_3)) = j_ := ⟨_, rfl⟩
               replace H : (if 0 ≤ (ji26) then (if (ji26) < (x5_3.length : Int) then (bignat_Mul.l1 k3 t346 (x5_3.set ((ji26) : Int).toNat ((IntKind.u64.wrap (x8_3 + (IntKind.u64.wrap ((IntKind.u64.wrap ((IntKind.u64.wrap ((rd t343 x31_2))) * (IntKind.u64.wrap (rd t346 x38_3)))) + (IntKind.u64.wrap (rd x5_3 (ji26))))))) % 4294967296)) x31_2 (rd t343 x31_2) ((IntKind.u64.wrap (x8_3 + (IntKind.u64.wrap ((IntKind.u64.wrap ((IntKind.u64.wrap ((rd t343 x31_2))) * (IntKind.u64.wrap (rd t346 x38_3)))) + (IntKind.u64.wrap (rd x5_3 (ji26))))))) / 4294967296) t343 (t343.length : Int) x31_2 t346 (t346.length : Int) (wrap64 (x38_3 + 1))) else (none)) else (none)) = some r := by first | (rw [hji26] at H; exact H) | (simp only [hji26] at H ⊢; exact H)
               have hji26w : (IntKind.i64.wrap (x31_2 + x38_3)) = ji26 := (i64_w _).trans hji26
               (try (have hji26r := hji26; simp only [hji13] at hji26r))
               (try (have hji26wr := hji26w; simp only [hji13] at hji26wr))
               by_cases c27 : 0 ≤ (ji26)
               ·
                rw [if_pos c27] at H
                have c27b0 := decide_eq_true c27
                clear c27
                by_cases c28 : (ji26) < (x5_3.length : Int)
                ·
                 rw [if_pos c28] at H
                 have c28b0 := decide_eq_true c28
                 clear c28
                 obtain ⟨y358, hy358⟩ : ∃ y_ : List Int, y_ = (x5_3.set ((ji26) : Int).toNat ((IntKind.u64.wrap (x8_3 + (IntKind.u64.wrap ((IntKind.u64.wrap ((IntKind.u64.wrap ((rd t343 x31_2))) * (IntKind.u64.wrap (rd t346 x38_3)))) + (IntKind.u64.wrap (rd x5_3 (ji26))))))) % 4294967296)) := ⟨_, rfl⟩
                 replace H : (bignat_Mul.l1 k3 t346 y358 x31_2 (rd t343 x31_2) ((IntKind.u64.wrap (x8_3 + (IntKind.u64.wrap ((IntKind.u64.wrap ((IntKind.u64.wrap ((rd t343 x31_2))) * (IntKind.u64.wrap (rd t346 x38_3)))) + (IntKind.u64.wrap (rd x5_3 (ji26))))))) / 4294967296) t343 (t343.length : Int) x31_2 t346 (t346.length : Int) (wrap64 (x38_3 + 1))) = some r := by first | (rw [hy358]; with_reducible exact H) | (have H2_ := (Option.bind_some _ _).symm.trans H; rw [hy358]; with_reducible exact H2_) | (have H2_ := (Option.bind_some _ _).symm.trans H; with_reducible exact H2_) | with_reducible exact H | (rw [hy358]; exact H) | exact H
                 have Ny358 := zA hy358
                 clear hy358
                 have H' := zA H
                 clear H
                 have p356 : 0 ≤ (x38_3 : Int) := zD
                 have q356 : x38_3 < (t346.length : Int) := zD
                 obtain ⟨ad356, e356, hx356_0⟩ := Kd.at_int (Kd.V_reads' HO_36.out).2.2 x38_3 p356 q356
                 cases e356
                 replace p356 := eq_true p356
                 replace q356 := eq_true q356
                 obtain ⟨Ao30, co30, eo30⟩ := Kd.R_slice HO_5.out
                 subst eo30
                 have p357 : 0 ≤ ((ji26) : Int) := zD
                 have q357 : (ji26) < (x5_3.length : Int) := zD
                 obtain ⟨ad357, e357, hx357_0⟩ := Kd.at_int (Kd.R_reads' HO_5.out).2.2 (ji26) p357 q357
                 cases e357
                 replace p357 := eq_true p357
                 replace q357 := eq_true q357
                 have p29 : 0 ≤ ((ji26) : Int) := zD
                 have q29 : ((ji26) : Int) < ((x5_3.length : Int) : Int) := zD
                 obtain ⟨go29, co29, eo29, gb29, gl29, cl29, HG29⟩ := Kd.R_form HO_5.out (by omega)
                 (first | cases eo29 | (injection eo29 with ea_ en_ ec_; (first | subst ea_ | (injection ea_ with ea_; subst ea_)); subst ec_; clear en_))
                 have GB29 := zA gb29
                 have GG29 := zA HG29
                 clear gb29 gl29 HG29
                 (first | simp only [add_plain] at hx357_0 | skip)
                 obtain ⟨hx29_0, hf29_0⟩ := Kd.R_celln 0 HO_5.out ((ji26) : Int) p29 q29
                 replace p29 := eq_true p29
                 replace q29 := eq_true q29
                 obtain ⟨hy31_, hz31_⟩ := Kd.R_celln 0 HO_5.out ((ji26) : Int) zD zD
                 have HP31 := Kd.R_putg HO_5.out ((ji26) : Int) ((IntKind.u64.wrap (x8_3 + (IntKind.u64.wrap ((IntKind.u64.wrap ((IntKind.u64.wrap ((rd t343 x31_2))) * (IntKind.u64.wrap (rd t346 x38_3)))) + (IntKind.u64.wrap (rd x5_3 (ji26))))))) % 4294967296)
                 go_wp2_with (first | ((with_reducible refine gate_store (t := 37) (p := 64) rfl ?_); refine store_event (t := 37) (p := 64) (v := ?vo_w32) (w1 := (wr.setCell ⟨go29, ((ji26) : Int).toNat, none⟩ (.int .u32 ((IntKind.u64.wrap (x8_3 + (IntKind.u64.wrap ((IntKind.u64.wrap ((IntKind.u64.wrap ((rd t343 x31_2))) * (IntKind.u64.wrap (rd t346 x38_3)))) + (IntKind.u64.wrap (rd x5_3 (ji26))))))) % 4294967296)))) ?hg ?ho ?hn ?hr ?_; (case ho => rfl); (case hg => rfl); (case hn => rfl); (case hr => first | (go_simp; done) | (go_simp; rfl)); intro w32 hw; have hg : wr.grownBy w32 (some go29) := (by rw [hw]; exact HP31.2); have hp_ : Kd.R (Kd.int .u32) 37 w32 w.heap.size (fun _ => True) (.slice (some ⟨go29, 0, none⟩) x5_3.length co30) y358 := (by rw [hw, Ny358.out]; exact HP31.1); clear HP31; replace HO_1 := zA (Kd.V_afterv (v := (.slice (some ⟨go29, 0, none⟩) x5_3.length co30)) (v1 := (.slice (some ⟨go29, 0, none⟩) x5_3.length co30)) (ok := (fun _ => True)) (zVM HO_1.out (fun _ hk => ⟨trivial, hk⟩)) hg (.inl rfl)); replace HO_5 := zA (hp_); replace HO_29 := zA (Kd.V_afterv (v := (.slice (some ⟨go29, 0, none⟩) x5_3.length co30)) (v1 := (.slice (some ⟨go29, 0, none⟩) x5_3.length co30)) (ok := (fun _ => True)) (zVM HO_29.out (fun _ hk => ⟨trivial, hk⟩)) hg (.inl rfl)); replace HO_36 := zA (Kd.V_afterv (v := (.slice (some ⟨go29, 0, none⟩) x5_3.length co30)) (v1 := (.slice (some ⟨go29, 0, none⟩) x5_3.length co30)) (ok := (fun _ => True)) (zVM HO_36.out (fun _ hk => ⟨trivial, hk⟩)) hg (.inl rfl)); replace HB := zA ((by rw [hw]; exact below_set (HB.out) GB29.out : Below w.heap.size w w32)); clear hg hw hp_))
                 go_roundg k3
                 case measure => have := HJ4.out; have := HK2.out; have := HK3.out; omega
                 case rel => exact ⟨(y358), ((IntKind.u64.wrap (x8_3 + (IntKind.u64.wrap ((IntKind.u64.wrap ((IntKind.u64.wrap ((rd t343 x31_2))) * (IntKind.u64.wrap (rd t346 x38_3)))) + (IntKind.u64.wrap (rd x5_3 (ji26))))))) / 4294967296), (wrap64 (x38_3 + 1)), (by first | rfl | (simp; done) | (simp only [← hji26] <;> (first | rfl | simp)) | (simp [*]; done)), zS, H', ⟨by have := HJ4.out; have := HK2.out; have := HK3.out; omega⟩, ⟨zVM HO_1.out (fun _ hk => hk.2)⟩, ⟨zR HO_5.out⟩, ⟨zVM HO_29.out (fun _ hk => hk.2)⟩, ⟨zVM HO_36.out (fun _ hk => hk.2)⟩, ⟨zH⟩⟩
                rw [if_neg c28] at H
                cases H
               rw [if_neg c27] at H
               cases H
              rw [if_neg c25] at H
              cases H
             rw [if_neg c24] at H
             cases H
            rw [if_neg c23] at H
            have c23b0 := decide_eq_false c23
            clear c23
            obtain ⟨ji33, hji33⟩ : ∃ j_ : Int, (wrap64 (x31_2 + (t346.length : Int))) = j_ := ⟨_, rfl⟩
            replace H : (if 0 ≤ (ji33) then (if (ji33) < (x5_3.length : Int) then (bignat_Mul.l0 k3 t346 (x5_3.set ((ji33) : Int).toNat ((x8_3) % 4294967296)) t343 (t343.length : Int) (wrap64 (x31_2 + 1))) else (none)) else (none)) = some r := by first | (rw [hji33] at H; exact H) | (simp only [hji33] at H ⊢; exact H)
            have hji33w : (IntKind.i64.wrap (x31_2 + (t346.length : Int))) = ji33 := (i64_w _).trans hji33
            (try (have hji33r := hji33; simp only [hji13] at hji33r))
            (try (have hji33wr := hji33w; simp only [hji13] at hji33wr))
            by_cases c34 : 0 ≤ (ji33)
            ·
             rw [if_pos c34] at H
             have c34b0 := decide_eq_true c34
             clear c34
             by_cases c35 : (ji33) < (x5_3.length : Int)
             ·
              rw [if_pos c35] at H
              have c35b0 := decide_eq_true c35
              clear c35
              obtain ⟨y359, hy359⟩ : ∃ y_ : List Int, y_ = (x5_3.set ((ji33) : Int).toNat ((x8_3) % 4294967296)) := ⟨_, rfl⟩
              replace H : (bignat_Mul.l0 k3 t346 y359 t343 (t343.length : Int) (wrap64 (x31_2 + 1))) = some r := by first | (rw [hy359]; with_reducible exact H) | (have H2_ := (Option.bind_some _ _).symm.trans H; rw [hy359]; with_reducible exact H2_) | (have H2_ := (Option.bind_some _ _).symm.trans H; with_reducible exact H2_) | with_reducible exact H | (rw [hy359]; exact H) | exact H
              have Ny359 := zA hy359
              clear hy359
              have H' := zA H
              clear H
              have p36 : 0 ≤ ((ji33) : Int) := zD
              have q36 : ((ji33) : Int) < ((x5_3.length : Int) : Int) := zD
              obtain ⟨go36, co36, eo36, gb36, gl36, cl36, HG36⟩ := Kd.R_form HO_5.out (by omega)
              (first | cases eo36 | (injection eo36 with ea_ en_ ec_; (first | subst ea_ | (injection ea_ with ea_; subst ea_)); subst ec_; clear en_))
              have GB36 := zA gb36
              have GG36 := zA HG36
              clear gb36 gl36 HG36
              obtain ⟨hx36_0, hf36_0⟩ := Kd.R_celln 0 HO_5.out ((ji33) : Int) p36 q36
              replace p36 := eq_true p36
              replace q36 := eq_true q36
              obtain ⟨hy37_, hz37_⟩ := Kd.R_celln 0 HO_5.out ((ji33) : Int) zD zD
              have HP37 := Kd.R_putg HO_5.out ((ji33) : Int) ((x8_3) % 4294967296)
              go_wp2_with (first | ((with_reducible refine gate_store (t := 37) (p := 75) rfl ?_); refine store_event (t := 37) (p := 75) (v := ?vo_w38) (w1 := (wr.setCell ⟨go36, ((ji33) : Int).toNat, none⟩ (.int .u32 ((x8_3) % 4294967296)))) ?hg ?ho ?hn ?hr ?_; (case ho => rfl); (case hg => rfl); (case hn => rfl); (case hr => first | (go_simp; done) | (go_simp; rfl)); intro w38 hw; have hg : wr.grownBy w38 (some go36) := (by rw [hw]; exact HP37.2); have hp_ : Kd.R (Kd.int .u32) 37 w38 w.heap.size (fun _ => True) (.slice (some ⟨go36, 0, none⟩) x5_3.length co36) y359 := (by rw [hw, Ny359.out]; exact HP37.1); clear HP37; replace HO_1 := zA (Kd.V_afterv (v := (.slice (some ⟨go36, 0, none⟩) x5_3.length co36)) (v1 := (.slice (some ⟨go36, 0, none⟩) x5_3.length co36)) (ok := (fun _ => True)) (zVM HO_1.out (fun _ hk => ⟨trivial, hk⟩)) hg (.inl rfl)); replace HO_5 := zA (hp_); replace HO_29 := zA (Kd.V_afterv (v := (.slice (some ⟨go36, 0, none⟩) x5_3.length co36)) (v1 := (.slice (some ⟨go36, 0, none⟩) x5_3.length co36)) (ok := (fun _ => True)) (zVM HO_29.out (fun _ hk => ⟨trivial, hk⟩)) hg (.inl rfl)); replace HO_36 := zA (Kd.V_afterv (v := (.slice (some ⟨go36, 0, none⟩) x5_3.length co36)) (v1 := (.slice (some ⟨go36, 0, none⟩) x5_3.length co36)) (ok := (fun _ => True)) (zVM HO_36.out (fun _ hk => ⟨trivial, hk⟩)) hg (.inl rfl)); replace HB := zA ((by rw [hw]; exact below_set (HB.out) GB36.out : Below w.heap.size w w38)); clear hg hw hp_))
              go_roundg k3
              case measure => have := HJ4.out; have := HK2.out; have := HK3.out; omega
              case rel => exact ⟨(y359), (wrap64 (x31_2 + 1)), zS, H', ⟨by have := HJ4.out; have := HK2.out; have := HK3.out; omega⟩, ⟨zVM HO_1.out (fun _ hk => hk.2)⟩, ⟨zR HO_5.out⟩, ⟨zVM HO_29.out (fun _ hk => hk.2)⟩, ⟨zH⟩⟩
             rw [if_neg c35] at H
             cases H
            rw [if_neg c34] at H
            cases H
         rw [if_neg c22] at H
         cases H
        rw [if_neg c21] at H
        cases H
       rw [if_neg c20] at H
       have c20b0 := decide_eq_false c20
       clear c20
       obtain ⟨t352, A390, H⟩ := zi H
       replace H : (some t352) = some r := H
       have A39 := zA A390
       clear A390
       obtain rfl := Option.some.inj H
       obtain ⟨Ao40, co40, eo40⟩ := Kd.R_slice HO_5.out
       subst eo40
       go_wp2_with (first | ((with_reducible refine gate_callee (f := 71) rfl ?_); refine goesL_ (some 78) rfl rfl Tryd.func71 zk rfl #[.slice Ao40 x5_2.length co40] rfl zX ?_; (with_reducible refine (bignat_trimO.calls k2 (fun k_ => some k_ = (.slice Ao40 x5_2.length co40 : Value).ownBlock) (.slice Ao40 x5_2.length co40) x5_2 t352 w _ ?side1 ?side2 A39.out).mono ?_); (case side1 => repeat (first | (with_reducible first | exact HB.out | apply below_alloc | apply pw_below_drewN | apply below_drew1) | exact HB.out)); (case side2 => exact Kd.R_tight rfl HO_5.out); rintro e w41 ⟨v353, rfl, ho0, hb, hkp⟩; refine ⟨_, rfl, ?_⟩; replace HO_1 := zA (Kd.V_mono (ok' := fun k_ => some k_ ≠ (v353 : Value).ownBlock) (Kd.V_keptB (HO_1.out) hkp (fun k_ hk_ hs_ => (hk_) hs_)) (fun k_ hk_ => fun e_ => Or.elim (ho0.1 k_ e_.symm) (fun hs_ => hk_.2.1 hs_) (fun hn_ => Nat.not_le.2 hk_.2.2 hn_))); replace HO_29 := zA (Kd.V_mono (ok' := fun k_ => some k_ ≠ (v353 : Value).ownBlock) (Kd.V_keptB (HO_29.out) hkp (fun k_ hk_ hs_ => (hk_) hs_)) (fun k_ hk_ => fun e_ => Or.elim (ho0.1 k_ e_.symm) (fun hs_ => hk_.2.1 hs_) (fun hn_ => Nat.not_le.2 hk_.2.2 hn_))); have HO354 := zA (Kd.R_mono (ok' := fun k_ => True) ho0 (fun k_ hk_ => trivial)); replace HB := zA (hb); clear HO_5; (try clear hkp)))
       go_ret
       exact ⟨_, by first | rfl | (simp [errW_none, errW_some] <;> rfl) | (simp only [← hji13]; first | rfl | (simp [errW_none, errW_some] <;> rfl)) | (simp [*, errW_none, errW_some] <;> rfl), zR HO354.out, zH⟩
    rw [if_neg c15] at H
    cases H
   rw [if_neg c14] at H
   cases H

end Go.Proofs.YtoeldfopjalpkaaDoor.Q

