/- Lemmas for the proof of one law of this seat (Qx3). -/
import Derived.Test.YtoeldfopjalpkaaDoorZRationalNewQx0
import Derived.Test.YtoeldfopjalpkaaDoorZRationalNewQx1
import Derived.Test.YtoeldfopjalpkaaDoorZRationalNewQx2
namespace Go.Proofs.YtoeldfopjalpkaaDoor.Q
open Go.RowKit Go.Proofs.YtoeldfopjalpkaaDoorW.PrintWords Go.Proofs.YtoeldfopjalpkaaDoorW.PrintLast Go.Proofs.YtoeldfopjalpkaaDoorW.PrintMore
attribute [local go_sem] max2_int min2_int max_two min_two max_three min_three max_four min_four   -- for this text's walks alone
set_option linter.unusedVariables false
set_option linter.unusedSimpArgs false

/-- A part of a row of the call's own: what is in front of it, what is behind it. -/
def PT (e : Nat) (w : World) (base : Nat) (ok : Nat → Prop) (g L co lo m : Nat) (pre suf xs : List Int) : Prop :=
 Kd.R (Kd.int .u32) e w base ok (.slice (some ⟨g, 0, none⟩) L co) (pre ++ xs ++ suf) ∧ pre.length = lo ∧ xs.length = m
section
variable {e : Nat} {w : World} {base : Nat} {ok : Nat → Prop} {g L co lo m : Nat} {pre suf xs : List Int}
theorem PT_drew (h : PT e w base ok g L co lo m pre suf xs) : PT e w.drew base ok g L co lo m pre suf xs := ⟨Kd.R_drew h.1, h.2⟩
theorem PT_drewN (h : PT e w base ok g L co lo m pre suf xs) (n : Nat) : PT e (w.drewN n) base ok g L co lo m pre suf xs := ⟨Kd.R_drewN h.1 n, h.2⟩
theorem PT_alloc (h : PT e w base ok g L co lo m pre suf xs) (o : Obj) : PT e (w.alloc o) base ok g L co lo m pre suf xs := ⟨Kd.R_alloc h.1 o, h.2⟩
theorem PT_rd {pre suf xs : List Int} {i : Int} (h0 : 0 ≤ i) (h1 : i < (xs.length : Int)) : rd (pre ++ xs ++ suf) ((pre.length : Int) + i) = rd xs i := by
 unfold rd
 have e : ((pre.length : Int) + i).toNat = pre.length + i.toNat := by omega
 rw [e, List.getD_eq_getElem?_getD, List.getD_eq_getElem?_getD, List.append_assoc, List.getElem?_append_right (by omega), List.getElem?_append_left (by omega)]
 congr 2
 omega
theorem PT_cell (h : PT e w base ok g L co lo m pre suf xs) (i : Int) (h0 : 0 ≤ i) (h1 : i < (m : Int)) : w.cell? ⟨g, lo + i.toNat, none⟩ = some (.int .u32 (rd xs i)) ∧ w.frozen? ⟨g, lo + i.toNat, none⟩ = false := by
 obtain ⟨h, rfl, rfl⟩ := h
 have hL := (Kd.R_reads' h).1
 simp only [List.length_append] at hL
 have := Kd.R_celln (0 : Int) h ((pre.length : Int) + i) (by omega) (by omega)
 rw [show ((pre.length : Int) + i).toNat = pre.length + i.toNat by omega] at this
 refine ⟨this.1.trans ?_, this.2⟩
 show some (Value.int .u32 (rd (pre ++ xs ++ suf) ((pre.length : Int) + i))) = _
 rw [PT_rd h0 h1]
theorem PT_put (h : PT e w base ok g L co lo m pre suf xs) (i : Int) (x : Int) (h0 : 0 ≤ i) (h1 : i < (m : Int)) : PT e (w.setCell ⟨g, lo + i.toNat, none⟩ (.int .u32 x)) base ok g L co lo m pre suf (xs.set i.toNat x) ∧ w.grownBy (w.setCell ⟨g, lo + i.toNat, none⟩ (.int .u32 x)) (some g) := by
 obtain ⟨h, rfl, rfl⟩ := h
 have := Kd.R_putg h ((pre.length : Int) + i) x
 rw [show ((pre.length : Int) + i).toNat = pre.length + i.toNat by omega] at this
 refine ⟨⟨?_, rfl, by rw [List.length_set]⟩, this.2⟩
 have e : (pre ++ xs ++ suf).set (pre.length + i.toNat) x = pre ++ xs.set i.toNat x ++ suf := by
  rw [List.append_assoc, List.set_append_right _ _ (by omega), List.append_assoc, List.set_append_left _ _ (by omega)]
  congr 3
  omega
 rw [e] at this
 exact this.1
theorem PT_ok (h : PT e w base ok g L co lo m pre suf xs) (k : Nat) (hk : some g = some k) : ok k := h.1.1 k hk
end

/-- The parts of a row that a function is handed, put back. -/
def bignat_addBack.fp (k : Nat) (l0 : List Int) (lo hi : Int) (l1 : List Int) : Option (List Int) := (bignat_addBack.f k ((l0.take hi.toNat).drop lo.toNat) l1).map fun r => l0.take lo.toNat ++ r ++ l0.drop hi.toNat
def bignat_subtractScaled.fp (k : Nat) (l0 : List Int) (lo hi : Int) (l1 : List Int) (a2 : Int) : Option (Bool × List Int) := (bignat_subtractScaled.f k ((l0.take hi.toNat).drop lo.toNat) l1 a2).map fun p => (p.1, l0.take lo.toNat ++ p.2 ++ l0.drop hi.toNat)
theorem bignat_addBack.monop : ∀ a0 a1 a2 a3 k, LeO (bignat_addBack.fp k a0 a1 a2 a3) (bignat_addBack.fp (k + 1) a0 a1 a2 a3) := fun _ _ _ _ _ => LeO.map _ (bignat_addBack.mono _ _ _)
theorem bignat_subtractScaled.monop : ∀ a0 a1 a2 a3 a4 k, LeO (bignat_subtractScaled.fp k a0 a1 a2 a3 a4) (bignat_subtractScaled.fp (k + 1) a0 a1 a2 a3 a4) := fun _ _ _ _ _ _ => LeO.map _ (bignat_subtractScaled.mono _ _ _ _)
theorem bignat_addBack.nil_none (k : Nat) (l1 : List Int) : bignat_addBack.f k [] l1 = none := by
 unfold bignat_addBack.f
 cases k with
 | zero => rfl
 | succ k =>
  simp only [bignat_addBack.l0]
  by_cases h : (0 : Int) < (l1.length : Int)
  ·
   rw [if_pos h, if_pos (by omega), if_pos h, if_neg (by simp)]
  ·
   rw [if_neg h, if_neg (by simp [wrap64])]
theorem bignat_subtractScaled.nil_none (k : Nat) (l1 : List Int) (a2 : Int) : bignat_subtractScaled.f k [] l1 a2 = none := by
 unfold bignat_subtractScaled.f
 cases k with
 | zero => rfl
 | succ k =>
  simp only [bignat_subtractScaled.l0]
  by_cases h : (0 : Int) < (l1.length : Int)
  ·
   rw [if_pos h, if_pos (by omega), if_pos h, if_neg (by simp)]
  ·
   rw [if_neg h, if_neg (by simp [wrap64])]

set_option maxHeartbeats 8000000 in
set_option maxRecDepth 100000 in
theorem bignat_addBack.part (k : Nat) (P0_ : Nat → Prop) (ad : Addr) (L co : Nat) (l0 : List Int) (lo' hi' : Int) (A' : Option Addr) (m' c' : Nat) (ys : List Int) (hA : A' = (if co = lo'.toNat then (some ad) else ((some ad) : Option Addr).map (·.add (lo'.toNat * 1)))) (hm : m' = hi'.toNat - lo'.toNat) (hy : ys = (l0.take hi'.toNat).drop lo'.toNat) (hL : hi'.toNat ≤ l0.length) (hM : lo'.toNat ≤ hi'.toNat) (A1 : Option Addr) (c1 : Nat) (l1 : List Int) (r : List Int) (w0 w : World) (hB : Below w0.heap.size w0 w) (ho0 : Kd.R (Kd.int .u32) 37 w w0.heap.size P0_ (.slice (some ad) L co) l0) (hr1 : ∀ W_, Kept w W_ (fun k_ => P0_ k_) → Kd.C (Kd.int .u32) W_ A1 l1.length l1) (hc1 : l1.length ≤ c1) (h : bignat_addBack.fp k l0 lo' hi' l1 = some r) :
  Calls Tryd.prog 105 #[.slice A' m' c', .slice A1 l1.length c1] w fun e w' => e = .returned (.tuple #[]) ∧ Kd.R (Kd.int .u32) 37 w' w0.heap.size (fun k_ => (P0_ k_ ∨ w.heap.size ≤ k_)) (.slice (some ad) L co) r ∧ Below w0.heap.size w0 w' ∧ Kept w w' (fun k_ => P0_ k_) := by
 obtain rfl : ys.length = m' := by rw [hm, hy, List.length_drop, List.length_take]; omega
 unfold bignat_addBack.fp at h
 rw [← hy] at h
 obtain ⟨p_, hp_, hr_⟩ := Option.map_eq_some_iff.1 h
 clear h
 have hpos : 0 < ys.length := by
  cases ys with
  | nil => exact absurd hp_ (by rw [bignat_addBack.nil_none]; simp)
  | cons y ys => simp
 obtain ⟨g, co_, eo, gb, gl, cl, HG⟩ := Kd.R_form ho0 (by omega)
 injection eo with ea en ec
 injection ea with ea
 subst ea
 subst ec
 subst en
 have hroom := (Kd.R_reads' ho0).2.1
 rw [if_neg (by omega), Option.map_some, add_plain, Nat.mul_one] at hA
 subst hA
 have hsplit : l0 = l0.take lo'.toNat ++ ys ++ l0.drop hi'.toNat := by
  rw [hy, List.drop_take, List.append_assoc]
  conv => lhs; rw [← List.take_append_drop lo'.toNat l0]
  congr 1
  conv => lhs; rw [← List.take_append_drop (hi'.toNat - lo'.toNat) (l0.drop lo'.toNat)]
  rw [List.drop_drop, show lo'.toNat + (hi'.toNat - lo'.toNat) = hi'.toNat by omega]
 have hpre : (l0.take lo'.toNat).length = lo'.toNat := by rw [List.length_take]; omega
 have HP0 : PT 37 w w0.heap.size (fun k_ => (P0_ k_ ∨ w.heap.size ≤ k_)) g l0.length co lo'.toNat ys.length (l0.take lo'.toNat) (l0.drop hi'.toNat) ys := ⟨by rw [← hsplit]; exact Kd.R_mono ho0 (fun k_ hk => (.inl hk)), hpre, rfl⟩
 generalize hlo : lo'.toNat = lo at *
 generalize hmm : ys.length = m at *
 generalize l0.take lo = pre at *
 generalize l0.drop hi'.toNat = suf at *
 generalize hLL : l0.length = L at *
 clear hsplit hpre ho0 hy hm hL hM hroom HG gl cl
 have HMg := Aside0.mk (HP0.1.1 g rfl)
 have GB := Aside0.mk gb
 clear gb
 subst hr_
 have HO0 := Aside0.mk HP0
 have HR1 := Aside0.mk hr1
 have HC1 := Aside0.mk hc1
 clear hr1 hc1
 have HK := Aside0.mk (Kept.refl w (fun k_ => P0_ k_))
 have HW0 := Aside0.mk hB.size
 have HB := Aside0.mk hB
 clear hB
 have H := hp_
 unfold bignat_addBack.f at H
 clear hp_
 have H' := Aside0.mk H
 clear H
 clear HP0 hlo hmm hLL hpos
 go_enter Tryd.func105, Tryd.ntmps105
 go_wp2
 go_loopg [4, 9] k (fun kq v4 v9 w' => ∃ (x0_1 : List Int) (x4_1 : Int) (x9_1 : Int), v4 = .int .u64 x4_1 ∧ v9 = .int .i64 x9_1 ∧ Aside0 (bignat_addBack.l0 kq x0_1 x4_1 l1 (l1.length : Int) x9_1 = some p_) ∧ Aside0 (kq ≤ k) ∧ Aside0 (PT 37 w' w0.heap.size (fun k_ => (P0_ k_ ∨ w.heap.size ≤ k_)) g L co lo m pre suf x0_1) ∧ Aside0 (Kept w w' (fun k_ => P0_ k_)) ∧ Aside0 (Below w0.heap.size w0 w'))
 case atStart => exact ⟨(ys), (0), (0), (by first | rfl | (simp; done) | (simp [*]; done)), (by first | rfl | (simp; done) | (simp [*]; done)), H', ⟨Nat.le_refl _⟩, ⟨by (with_reducible repeat (first | apply PT_alloc | apply PT_drewN | apply PT_drew)); exact HO0.out⟩, ⟨by repeat (first | (with_reducible first | exact HK.out | apply Kept.alloc | apply Kept.drewN | apply Kept.drew) | exact HK.out)⟩, ⟨by repeat (first | (with_reducible first | exact HB.out | apply below_alloc | apply pw_below_drewN | apply below_drew1) | exact HB.out)⟩⟩
 case round =>
  clear H'
  try clear c1
  try clear p2
  obtain ⟨x0_1, x4_1, x9_1, rfl, rfl, HA, HK1, HO_0, HK, HB⟩ := hrel
  have hlen := HO_0.out.2.2
  cases gk with
  | zero => exact absurd HA.out (by simp [bignat_addBack.l0])
  | succ k1 =>
   have H := HA.out
   clear HA
   simp only [bignat_addBack.l0, hlen] at H
   clear hlen
   by_cases c3 : x9_1 < (l1.length : Int)
   ·
    rw [if_pos c3] at H
    have c3b0 : decide (x9_1 < (l1.length : Int)) = true := decide_eq_true c3
    clear c3
    by_cases c4 : 0 ≤ x9_1
    ·
     rw [if_pos c4] at H
     have c4b0 : decide (0 ≤ x9_1) = true := decide_eq_true c4
     clear c4
     by_cases c5 : x9_1 < (l1.length : Int)
     ·
      rw [if_pos c5] at H
      have c5b0 : decide (x9_1 < (l1.length : Int)) = true := decide_eq_true c5
      clear c5
      by_cases c6 : x9_1 < (m : Int)
      ·
       rw [if_pos c6] at H
       have c6b0 : decide (x9_1 < (m : Int)) = true := decide_eq_true c6
       clear c6
       obtain ⟨y173, hy173⟩ : ∃ y_ : List Int, y_ = (x0_1.set (x9_1 : Int).toNat ((IntKind.u64.wrap (x4_1 + (IntKind.u64.wrap ((IntKind.u64.wrap (rd x0_1 x9_1)) + (IntKind.u64.wrap (rd l1 x9_1)))))) % 4294967296)) := ⟨_, rfl⟩
       replace H : (bignat_addBack.l0 k1 y173 ((IntKind.u64.wrap (x4_1 + (IntKind.u64.wrap ((IntKind.u64.wrap (rd x0_1 x9_1)) + (IntKind.u64.wrap (rd l1 x9_1)))))) / 4294967296) l1 (l1.length : Int) (wrap64 (x9_1 + 1))) = some p_ := by first | (rw [hy173]; with_reducible exact H) | (have H2_ := (Option.bind_some _ _).symm.trans H; rw [hy173]; with_reducible exact H2_) | (have H2_ := (Option.bind_some _ _).symm.trans H; with_reducible exact H2_) | with_reducible exact H | (rw [hy173]; exact H) | exact H
       have Ny173 := Aside0.mk hy173
       clear hy173
       have H' := Aside0.mk H
       clear H
       have p171 : 0 ≤ (x9_1 : Int) := of_decide_eq_true (by first | (with_reducible assumption) | assumption)
       have q171 : x9_1 < (l1.length : Int) := of_decide_eq_true (by first | (with_reducible assumption) | assumption)
       obtain ⟨ad171, e171, hx171_0⟩ := Kd.at_int (Kd.C_kept_now HR1.out HK.out) x9_1 p171 q171
       cases e171
       replace p171 := eq_true p171
       replace q171 := eq_true q171
       have p172 : 0 ≤ (x9_1 : Int) := of_decide_eq_true (by first | (with_reducible assumption) | assumption)
       have q172 : x9_1 < (m : Int) := of_decide_eq_true (by first | (with_reducible assumption) | assumption)
       have hx172_0 := (PT_cell HO_0.out x9_1 p172 q172).1
       replace p172 := eq_true p172
       replace q172 := eq_true q172
       have p7 : 0 ≤ (x9_1 : Int) := of_decide_eq_true (by first | (with_reducible assumption) | assumption)
       have q7 : (x9_1 : Int) < ((m : Int) : Int) := of_decide_eq_true (by first | (with_reducible assumption) | assumption)
       obtain ⟨hx7_0, hf7_0⟩ := PT_cell HO_0.out (x9_1 : Int) p7 q7
       replace p7 := eq_true p7
       replace q7 := eq_true q7
       obtain ⟨hy9_, hz9_⟩ := PT_cell HO_0.out (x9_1 : Int) (of_decide_eq_true (by first | (with_reducible assumption) | assumption)) (of_decide_eq_true (by first | (with_reducible assumption) | assumption))
       have HP9 := PT_put HO_0.out (x9_1 : Int) ((IntKind.u64.wrap (x4_1 + (IntKind.u64.wrap ((IntKind.u64.wrap (rd x0_1 x9_1)) + (IntKind.u64.wrap (rd l1 x9_1)))))) % 4294967296) (of_decide_eq_true (by first | (with_reducible assumption) | assumption)) (of_decide_eq_true (by first | (with_reducible assumption) | assumption))
       go_wp2_with (first | ((with_reducible refine gate_store (t := 37) (p := 28) rfl ?_); refine store_event (t := 37) (p := 28) (v := ?vo_w10) (w1 := (wr.setCell ⟨g, lo + (x9_1 : Int).toNat, none⟩ (.int .u32 ((IntKind.u64.wrap (x4_1 + (IntKind.u64.wrap ((IntKind.u64.wrap (rd x0_1 x9_1)) + (IntKind.u64.wrap (rd l1 x9_1)))))) % 4294967296)))) ?hg ?ho ?hn ?hr ?_; (case ho => rfl); (case hg => rfl); (case hn => rfl); (case hr => first | (go_simp; done) | (go_simp; rfl)); intro w10 hw; have hg : wr.grownBy w10 (some g) := (by rw [hw]; exact HP9.2); have hp_ : PT 37 w10 w0.heap.size (fun k_ => (P0_ k_ ∨ w.heap.size ≤ k_)) g L co lo m pre suf y173 := (by rw [hw, Ny173.out]; exact HP9.1); clear HP9; have n0_ := Aside0.mk (hp_); have n1_ := Aside0.mk ((by rw [hw]; exact below_set (HB.out) GB.out : Below w0.heap.size w0 w10)); have n2_ := Aside0.mk (Kept.of_grown (S := (fun k_ => P0_ k_)) hg (by repeat (first | (with_reducible first | exact HK.out | apply Kept.alloc | apply Kept.drewN | apply Kept.drew) | exact HK.out)) (PT_ok HO_0.out)); clear HO_0; clear HB; clear HK; have HO_0 := n0_; have HB := n1_; have HK := n2_; clear n0_ n1_ n2_; clear hg hw hp_))
       go_roundg k1
       case measure => have := HK1.out; omega
       case rel => exact ⟨(y173), ((IntKind.u64.wrap (x4_1 + (IntKind.u64.wrap ((IntKind.u64.wrap (rd x0_1 x9_1)) + (IntKind.u64.wrap (rd l1 x9_1)))))) / 4294967296), (wrap64 (x9_1 + 1)), (by first | rfl | (simp; done) | (simp [*]; done)), (by first | rfl | (simp; done) | (simp [*]; done)), H', ⟨by have := HK1.out; omega⟩, ⟨by (with_reducible repeat (first | apply PT_alloc | apply PT_drewN | apply PT_drew)); exact HO_0.out⟩, ⟨by repeat (first | (with_reducible first | exact HK.out | apply Kept.alloc | apply Kept.drewN | apply Kept.drew) | exact HK.out)⟩, ⟨by repeat (first | (with_reducible first | exact HB.out | apply below_alloc | apply pw_below_drewN | apply below_drew1) | exact HB.out)⟩⟩
      ·
       rw [if_neg c6] at H
       exact absurd H (by simp)
     ·
      rw [if_neg c5] at H
      exact absurd H (by simp)
    ·
     rw [if_neg c4] at H
     exact absurd H (by simp)
   ·
    rw [if_neg c3] at H
    have c3b0 : decide (x9_1 < (l1.length : Int)) = false := decide_eq_false c3
    clear c3
    obtain ⟨ji11, hji11⟩ : ∃ j_ : Int, (wrap64 ((m : Int) - 1)) = j_ := ⟨_, rfl⟩
    replace H : (if 0 ≤ (ji11) then (if (ji11) < (m : Int) then (some (x0_1.set ((ji11) : Int).toNat (((rd x0_1 (ji11)) + ((x4_1) % 4294967296)) % 4294967296))) else (none)) else (none)) = some p_ := by first | (rw [hji11] at H; exact H) | (simp only [hji11] at H ⊢; exact H)
    have hji11w : (IntKind.i64.wrap ((m : Int) - 1)) = ji11 := (i64_w _).trans hji11
    by_cases c12 : 0 ≤ (ji11)
    ·
     rw [if_pos c12] at H
     have c12b0 : decide (0 ≤ (ji11)) = true := decide_eq_true c12
     clear c12
     by_cases c13 : (ji11) < (m : Int)
     ·
      rw [if_pos c13] at H
      have c13b0 : decide ((ji11) < (m : Int)) = true := decide_eq_true c13
      clear c13
      obtain ⟨y175, hy175⟩ : ∃ y_ : List Int, y_ = (x0_1.set ((ji11) : Int).toNat (((rd x0_1 (ji11)) + ((x4_1) % 4294967296)) % 4294967296)) := ⟨_, rfl⟩
      replace H : (some y175) = some p_ := by first | (rw [hy175]; with_reducible exact H) | (have H2_ := (Option.bind_some _ _).symm.trans H; rw [hy175]; with_reducible exact H2_) | (have H2_ := (Option.bind_some _ _).symm.trans H; with_reducible exact H2_) | with_reducible exact H | (rw [hy175]; exact H) | exact H
      have Ny175 := Aside0.mk hy175
      clear hy175
      obtain rfl := Option.some.inj H
      have p174 : 0 ≤ ((ji11) : Int) := of_decide_eq_true (by first | (with_reducible assumption) | assumption)
      have q174 : (ji11) < (m : Int) := of_decide_eq_true (by first | (with_reducible assumption) | assumption)
      have hx174_0 := (PT_cell HO_0.out (ji11) p174 q174).1
      replace p174 := eq_true p174
      replace q174 := eq_true q174
      have p14 : 0 ≤ ((ji11) : Int) := of_decide_eq_true (by first | (with_reducible assumption) | assumption)
      have q14 : ((ji11) : Int) < ((m : Int) : Int) := of_decide_eq_true (by first | (with_reducible assumption) | assumption)
      obtain ⟨hx14_0, hf14_0⟩ := PT_cell HO_0.out ((ji11) : Int) p14 q14
      replace p14 := eq_true p14
      replace q14 := eq_true q14
      obtain ⟨hy16_, hz16_⟩ := PT_cell HO_0.out ((ji11) : Int) (of_decide_eq_true (by first | (with_reducible assumption) | assumption)) (of_decide_eq_true (by first | (with_reducible assumption) | assumption))
      have HP16 := PT_put HO_0.out ((ji11) : Int) (((rd x0_1 (ji11)) + ((x4_1) % 4294967296)) % 4294967296) (of_decide_eq_true (by first | (with_reducible assumption) | assumption)) (of_decide_eq_true (by first | (with_reducible assumption) | assumption))
      go_wp2_with (first | ((with_reducible refine gate_store (t := 37) (p := 41) rfl ?_); refine store_event (t := 37) (p := 41) (v := ?vo_w17) (w1 := (wr.setCell ⟨g, lo + ((ji11) : Int).toNat, none⟩ (.int .u32 (((rd x0_1 (ji11)) + ((x4_1) % 4294967296)) % 4294967296)))) ?hg ?ho ?hn ?hr ?_; (case ho => rfl); (case hg => rfl); (case hn => rfl); (case hr => first | (go_simp; done) | (go_simp; rfl)); intro w17 hw; have hg : wr.grownBy w17 (some g) := (by rw [hw]; exact HP16.2); have hp_ : PT 37 w17 w0.heap.size (fun k_ => (P0_ k_ ∨ w.heap.size ≤ k_)) g L co lo m pre suf y175 := (by rw [hw, Ny175.out]; exact HP16.1); clear HP16; have n0_ := Aside0.mk (hp_); have n1_ := Aside0.mk ((by rw [hw]; exact below_set (HB.out) GB.out : Below w0.heap.size w0 w17)); have n2_ := Aside0.mk (Kept.of_grown (S := (fun k_ => P0_ k_)) hg (by repeat (first | (with_reducible first | exact HK.out | apply Kept.alloc | apply Kept.drewN | apply Kept.drew) | exact HK.out)) (PT_ok HO_0.out)); clear HO_0; clear HB; clear HK; have HO_0 := n0_; have HB := n1_; have HK := n2_; clear n0_ n1_ n2_; clear hg hw hp_))
      first | go_end0 | ((try simp only [Exit.inBlock, Exit.then]); refine bodyPost_ret (results_none rfl _ _ _) rfl ?_)
      exact ⟨by first | rfl | (simp [errW_none, errW_some] <;> rfl) | (simp only [← hji11]; first | rfl | (simp [errW_none, errW_some] <;> rfl)) | (simp [*, errW_none, errW_some] <;> rfl), by (with_reducible repeat (first | apply Kd.R_alloc | apply Kd.R_drewN | apply Kd.R_drew)); (first | exact HO_0.out.1 | (rw [← List.append_assoc]; exact HO_0.out.1)), by repeat (first | (with_reducible first | exact HB.out | apply below_alloc | apply pw_below_drewN | apply below_drew1) | exact HB.out), by repeat (first | (with_reducible first | exact HK.out | apply Kept.alloc | apply Kept.drewN | apply Kept.drew) | exact HK.out)⟩
     ·
      rw [if_neg c13] at H
      exact absurd H (by simp)
    ·
     rw [if_neg c12] at H
     exact absurd H (by simp)

set_option maxHeartbeats 8000000 in
set_option maxRecDepth 100000 in
theorem bignat_subtractScaled.part (k : Nat) (P0_ : Nat → Prop) (ad : Addr) (L co : Nat) (l0 : List Int) (lo' hi' : Int) (A' : Option Addr) (m' c' : Nat) (ys : List Int) (hA : A' = (if co = lo'.toNat then (some ad) else ((some ad) : Option Addr).map (·.add (lo'.toNat * 1)))) (hm : m' = hi'.toNat - lo'.toNat) (hy : ys = (l0.take hi'.toNat).drop lo'.toNat) (hL : hi'.toNat ≤ l0.length) (hM : lo'.toNat ≤ hi'.toNat) (A1 : Option Addr) (c1 : Nat) (l1 : List Int) (a2 : Int) (r1 : Bool) (r2 : List Int) (w0 w : World) (hB : Below w0.heap.size w0 w) (ho0 : Kd.R (Kd.int .u32) 37 w w0.heap.size P0_ (.slice (some ad) L co) l0) (hr1 : ∀ W_, Kept w W_ (fun k_ => P0_ k_) → Kd.C (Kd.int .u32) W_ A1 l1.length l1) (hc1 : l1.length ≤ c1) (h : bignat_subtractScaled.fp k l0 lo' hi' l1 a2 = some (r1, r2)) :
  Calls Tryd.prog 104 #[.slice A' m' c', .slice A1 l1.length c1, .int .u64 a2] w fun e w' => e = .returned (.bool r1) ∧ Kd.R (Kd.int .u32) 37 w' w0.heap.size (fun k_ => (P0_ k_ ∨ w.heap.size ≤ k_)) (.slice (some ad) L co) r2 ∧ Below w0.heap.size w0 w' ∧ Kept w w' (fun k_ => P0_ k_) := by
 obtain rfl : ys.length = m' := by rw [hm, hy, List.length_drop, List.length_take]; omega
 unfold bignat_subtractScaled.fp at h
 rw [← hy] at h
 obtain ⟨p_, hp_, hr_⟩ := Option.map_eq_some_iff.1 h
 clear h
 have hpos : 0 < ys.length := by
  cases ys with
  | nil => exact absurd hp_ (by rw [bignat_subtractScaled.nil_none]; simp)
  | cons y ys => simp
 obtain ⟨g, co_, eo, gb, gl, cl, HG⟩ := Kd.R_form ho0 (by omega)
 injection eo with ea en ec
 injection ea with ea
 subst ea
 subst ec
 subst en
 have hroom := (Kd.R_reads' ho0).2.1
 rw [if_neg (by omega), Option.map_some, add_plain, Nat.mul_one] at hA
 subst hA
 have hsplit : l0 = l0.take lo'.toNat ++ ys ++ l0.drop hi'.toNat := by
  rw [hy, List.drop_take, List.append_assoc]
  conv => lhs; rw [← List.take_append_drop lo'.toNat l0]
  congr 1
  conv => lhs; rw [← List.take_append_drop (hi'.toNat - lo'.toNat) (l0.drop lo'.toNat)]
  rw [List.drop_drop, show lo'.toNat + (hi'.toNat - lo'.toNat) = hi'.toNat by omega]
 have hpre : (l0.take lo'.toNat).length = lo'.toNat := by rw [List.length_take]; omega
 have HP0 : PT 37 w w0.heap.size (fun k_ => (P0_ k_ ∨ w.heap.size ≤ k_)) g l0.length co lo'.toNat ys.length (l0.take lo'.toNat) (l0.drop hi'.toNat) ys := ⟨by rw [← hsplit]; exact Kd.R_mono ho0 (fun k_ hk => (.inl hk)), hpre, rfl⟩
 generalize hlo : lo'.toNat = lo at *
 generalize hmm : ys.length = m at *
 generalize l0.take lo = pre at *
 generalize l0.drop hi'.toNat = suf at *
 generalize hLL : l0.length = L at *
 clear hsplit hpre ho0 hy hm hL hM hroom HG gl cl
 have HMg := Aside0.mk (HP0.1.1 g rfl)
 have GB := Aside0.mk gb
 clear gb
 obtain ⟨p1_, p2_⟩ := p_
 injection hr_ with e1_ e2_
 subst e1_
 subst e2_
 have HO0 := Aside0.mk HP0
 have HR1 := Aside0.mk hr1
 have HC1 := Aside0.mk hc1
 clear hr1 hc1
 have HK := Aside0.mk (Kept.refl w (fun k_ => P0_ k_))
 have HW0 := Aside0.mk hB.size
 have HB := Aside0.mk hB
 clear hB
 have H := hp_
 unfold bignat_subtractScaled.f at H
 clear hp_
 have H' := Aside0.mk H
 clear H
 clear HP0 hlo hmm hLL hpos
 go_enter Tryd.func104, Tryd.ntmps104
 go_wp2
 go_loopg [7, 16] k (fun kq v7 v16 w' => ∃ (x0_1 : List Int) (x7_1 : Int) (x16_1 : Int), v7 = .int .u64 x7_1 ∧ v16 = .int .i64 x16_1 ∧ Aside0 (bignat_subtractScaled.l0 kq x0_1 a2 x7_1 l1 (l1.length : Int) x16_1 = some (p1_, p2_)) ∧ Aside0 (kq ≤ k) ∧ Aside0 (PT 37 w' w0.heap.size (fun k_ => (P0_ k_ ∨ w.heap.size ≤ k_)) g L co lo m pre suf x0_1) ∧ Aside0 (Kept w w' (fun k_ => P0_ k_)) ∧ Aside0 (Below w0.heap.size w0 w'))
 case atStart => exact ⟨(ys), (0), (0), (by first | rfl | (simp; done) | (simp [*]; done)), (by first | rfl | (simp; done) | (simp [*]; done)), H', ⟨Nat.le_refl _⟩, ⟨by (with_reducible repeat (first | apply PT_alloc | apply PT_drewN | apply PT_drew)); exact HO0.out⟩, ⟨by repeat (first | (with_reducible first | exact HK.out | apply Kept.alloc | apply Kept.drewN | apply Kept.drew) | exact HK.out)⟩, ⟨by repeat (first | (with_reducible first | exact HB.out | apply below_alloc | apply pw_below_drewN | apply below_drew1) | exact HB.out)⟩⟩
 case round =>
  clear H'
  try clear c1
  try clear p2
  obtain ⟨x0_1, x7_1, x16_1, rfl, rfl, HA, HK1, HO_0, HK, HB⟩ := hrel
  have hlen := HO_0.out.2.2
  cases gk with
  | zero => exact absurd HA.out (by simp [bignat_subtractScaled.l0])
  | succ k1 =>
   have H := HA.out
   clear HA
   simp only [bignat_subtractScaled.l0, hlen] at H
   clear hlen
   by_cases c4 : x16_1 < (l1.length : Int)
   ·
    rw [if_pos c4] at H
    have c4b0 : decide (x16_1 < (l1.length : Int)) = true := decide_eq_true c4
    clear c4
    by_cases c5 : 0 ≤ x16_1
    ·
     rw [if_pos c5] at H
     have c5b0 : decide (0 ≤ x16_1) = true := decide_eq_true c5
     clear c5
     by_cases c6 : x16_1 < (l1.length : Int)
     ·
      rw [if_pos c6] at H
      have c6b0 : decide (x16_1 < (l1.length : Int)) = true := decide_eq_true c6
      clear c6
      by_cases c7 : x16_1 < (m : Int)
      ·
       rw [if_pos c7] at H
       have c7b0 : decide (x16_1 < (m : Int)) = true := decide_eq_true c7
       clear c7
       by_cases c8 : (rd x0_1 x16_1) < ((IntKind.u64.wrap ((IntKind.u64.wrap (a2 * (IntKind.u64.wrap (rd l1 x16_1)))) + x7_1)) % 4294967296)
       ·
        rw [if_pos c8] at H
        have c8b0 : decide ((rd x0_1 x16_1) < ((IntKind.u64.wrap ((IntKind.u64.wrap (a2 * (IntKind.u64.wrap (rd l1 x16_1)))) + x7_1)) % 4294967296)) = true := decide_eq_true c8
        clear c8
        obtain ⟨y165, hy165⟩ : ∃ y_ : List Int, y_ = (x0_1.set (x16_1 : Int).toNat (((rd x0_1 x16_1) - ((IntKind.u64.wrap ((IntKind.u64.wrap (a2 * (IntKind.u64.wrap (rd l1 x16_1)))) + x7_1)) % 4294967296)) % 4294967296)) := ⟨_, rfl⟩
        replace H : (bignat_subtractScaled.l0 k1 y165 a2 (IntKind.u64.wrap (((IntKind.u64.wrap ((IntKind.u64.wrap (a2 * (IntKind.u64.wrap (rd l1 x16_1)))) + x7_1)) / 4294967296) + 1)) l1 (l1.length : Int) (wrap64 (x16_1 + 1))) = some (p1_, p2_) := by first | (rw [hy165]; with_reducible exact H) | (have H2_ := (Option.bind_some _ _).symm.trans H; rw [hy165]; with_reducible exact H2_) | (have H2_ := (Option.bind_some _ _).symm.trans H; with_reducible exact H2_) | with_reducible exact H | (rw [hy165]; exact H) | exact H
        have Ny165 := Aside0.mk hy165
        clear hy165
        have H' := Aside0.mk H
        clear H
        have p162 : 0 ≤ (x16_1 : Int) := of_decide_eq_true (by first | (with_reducible assumption) | assumption)
        have q162 : x16_1 < (l1.length : Int) := of_decide_eq_true (by first | (with_reducible assumption) | assumption)
        obtain ⟨ad162, e162, hx162_0⟩ := Kd.at_int (Kd.C_kept_now HR1.out HK.out) x16_1 p162 q162
        cases e162
        replace p162 := eq_true p162
        replace q162 := eq_true q162
        have p163 : 0 ≤ (x16_1 : Int) := of_decide_eq_true (by first | (with_reducible assumption) | assumption)
        have q163 : x16_1 < (m : Int) := of_decide_eq_true (by first | (with_reducible assumption) | assumption)
        have hx163_0 := (PT_cell HO_0.out x16_1 p163 q163).1
        replace p163 := eq_true p163
        replace q163 := eq_true q163
        have p164 : 0 ≤ (x16_1 : Int) := of_decide_eq_true (by first | (with_reducible assumption) | assumption)
        have q164 : x16_1 < (m : Int) := of_decide_eq_true (by first | (with_reducible assumption) | assumption)
        have hx164_0 := (PT_cell HO_0.out x16_1 p164 q164).1
        replace p164 := eq_true p164
        replace q164 := eq_true q164
        have p9 : 0 ≤ (x16_1 : Int) := of_decide_eq_true (by first | (with_reducible assumption) | assumption)
        have q9 : (x16_1 : Int) < ((m : Int) : Int) := of_decide_eq_true (by first | (with_reducible assumption) | assumption)
        obtain ⟨hx9_0, hf9_0⟩ := PT_cell HO_0.out (x16_1 : Int) p9 q9
        replace p9 := eq_true p9
        replace q9 := eq_true q9
        obtain ⟨hy11_, hz11_⟩ := PT_cell HO_0.out (x16_1 : Int) (of_decide_eq_true (by first | (with_reducible assumption) | assumption)) (of_decide_eq_true (by first | (with_reducible assumption) | assumption))
        have HP11 := PT_put HO_0.out (x16_1 : Int) (((rd x0_1 x16_1) - ((IntKind.u64.wrap ((IntKind.u64.wrap (a2 * (IntKind.u64.wrap (rd l1 x16_1)))) + x7_1)) % 4294967296)) % 4294967296) (of_decide_eq_true (by first | (with_reducible assumption) | assumption)) (of_decide_eq_true (by first | (with_reducible assumption) | assumption))
        go_wp2_with (first | ((with_reducible refine gate_store (t := 37) (p := 45) rfl ?_); refine store_event (t := 37) (p := 45) (v := ?vo_w12) (w1 := (wr.setCell ⟨g, lo + (x16_1 : Int).toNat, none⟩ (.int .u32 (((rd x0_1 x16_1) - ((IntKind.u64.wrap ((IntKind.u64.wrap (a2 * (IntKind.u64.wrap (rd l1 x16_1)))) + x7_1)) % 4294967296)) % 4294967296)))) ?hg ?ho ?hn ?hr ?_; (case ho => rfl); (case hg => rfl); (case hn => rfl); (case hr => first | (go_simp; done) | (go_simp; rfl)); intro w12 hw; have hg : wr.grownBy w12 (some g) := (by rw [hw]; exact HP11.2); have hp_ : PT 37 w12 w0.heap.size (fun k_ => (P0_ k_ ∨ w.heap.size ≤ k_)) g L co lo m pre suf y165 := (by rw [hw, Ny165.out]; exact HP11.1); clear HP11; have n0_ := Aside0.mk (hp_); have n1_ := Aside0.mk ((by rw [hw]; exact below_set (HB.out) GB.out : Below w0.heap.size w0 w12)); have n2_ := Aside0.mk (Kept.of_grown (S := (fun k_ => P0_ k_)) hg (by repeat (first | (with_reducible first | exact HK.out | apply Kept.alloc | apply Kept.drewN | apply Kept.drew) | exact HK.out)) (PT_ok HO_0.out)); clear HO_0; clear HB; clear HK; have HO_0 := n0_; have HB := n1_; have HK := n2_; clear n0_ n1_ n2_; clear hg hw hp_))
        go_roundg k1
        case measure => have := HK1.out; omega
        case rel => exact ⟨(y165), (IntKind.u64.wrap (((IntKind.u64.wrap ((IntKind.u64.wrap (a2 * (IntKind.u64.wrap (rd l1 x16_1)))) + x7_1)) / 4294967296) + 1)), (wrap64 (x16_1 + 1)), (by first | rfl | (simp; done) | (simp [*]; done)), (by first | rfl | (simp; done) | (simp [*]; done)), H', ⟨by have := HK1.out; omega⟩, ⟨by (with_reducible repeat (first | apply PT_alloc | apply PT_drewN | apply PT_drew)); exact HO_0.out⟩, ⟨by repeat (first | (with_reducible first | exact HK.out | apply Kept.alloc | apply Kept.drewN | apply Kept.drew) | exact HK.out)⟩, ⟨by repeat (first | (with_reducible first | exact HB.out | apply below_alloc | apply pw_below_drewN | apply below_drew1) | exact HB.out)⟩⟩
       ·
        rw [if_neg c8] at H
        have c8b0 : decide ((rd x0_1 x16_1) < ((IntKind.u64.wrap ((IntKind.u64.wrap (a2 * (IntKind.u64.wrap (rd l1 x16_1)))) + x7_1)) % 4294967296)) = false := decide_eq_false c8
        clear c8
        obtain ⟨y167, hy167⟩ : ∃ y_ : List Int, y_ = (x0_1.set (x16_1 : Int).toNat (((rd x0_1 x16_1) - ((IntKind.u64.wrap ((IntKind.u64.wrap (a2 * (IntKind.u64.wrap (rd l1 x16_1)))) + x7_1)) % 4294967296)) % 4294967296)) := ⟨_, rfl⟩
        replace H : (bignat_subtractScaled.l0 k1 y167 a2 ((IntKind.u64.wrap ((IntKind.u64.wrap (a2 * (IntKind.u64.wrap (rd l1 x16_1)))) + x7_1)) / 4294967296) l1 (l1.length : Int) (wrap64 (x16_1 + 1))) = some (p1_, p2_) := by first | (rw [hy167]; with_reducible exact H) | (have H2_ := (Option.bind_some _ _).symm.trans H; rw [hy167]; with_reducible exact H2_) | (have H2_ := (Option.bind_some _ _).symm.trans H; with_reducible exact H2_) | with_reducible exact H | (rw [hy167]; exact H) | exact H
        have Ny167 := Aside0.mk hy167
        clear hy167
        have H' := Aside0.mk H
        clear H
        have p162 : 0 ≤ (x16_1 : Int) := of_decide_eq_true (by first | (with_reducible assumption) | assumption)
        have q162 : x16_1 < (l1.length : Int) := of_decide_eq_true (by first | (with_reducible assumption) | assumption)
        obtain ⟨ad162, e162, hx162_0⟩ := Kd.at_int (Kd.C_kept_now HR1.out HK.out) x16_1 p162 q162
        cases e162
        replace p162 := eq_true p162
        replace q162 := eq_true q162
        have p163 : 0 ≤ (x16_1 : Int) := of_decide_eq_true (by first | (with_reducible assumption) | assumption)
        have q163 : x16_1 < (m : Int) := of_decide_eq_true (by first | (with_reducible assumption) | assumption)
        have hx163_0 := (PT_cell HO_0.out x16_1 p163 q163).1
        replace p163 := eq_true p163
        replace q163 := eq_true q163
        have p166 : 0 ≤ (x16_1 : Int) := of_decide_eq_true (by first | (with_reducible assumption) | assumption)
        have q166 : x16_1 < (m : Int) := of_decide_eq_true (by first | (with_reducible assumption) | assumption)
        have hx166_0 := (PT_cell HO_0.out x16_1 p166 q166).1
        replace p166 := eq_true p166
        replace q166 := eq_true q166
        have p13 : 0 ≤ (x16_1 : Int) := of_decide_eq_true (by first | (with_reducible assumption) | assumption)
        have q13 : (x16_1 : Int) < ((m : Int) : Int) := of_decide_eq_true (by first | (with_reducible assumption) | assumption)
        obtain ⟨hx13_0, hf13_0⟩ := PT_cell HO_0.out (x16_1 : Int) p13 q13
        replace p13 := eq_true p13
        replace q13 := eq_true q13
        obtain ⟨hy15_, hz15_⟩ := PT_cell HO_0.out (x16_1 : Int) (of_decide_eq_true (by first | (with_reducible assumption) | assumption)) (of_decide_eq_true (by first | (with_reducible assumption) | assumption))
        have HP15 := PT_put HO_0.out (x16_1 : Int) (((rd x0_1 x16_1) - ((IntKind.u64.wrap ((IntKind.u64.wrap (a2 * (IntKind.u64.wrap (rd l1 x16_1)))) + x7_1)) % 4294967296)) % 4294967296) (of_decide_eq_true (by first | (with_reducible assumption) | assumption)) (of_decide_eq_true (by first | (with_reducible assumption) | assumption))
        go_wp2_with (first | ((with_reducible refine gate_store (t := 37) (p := 45) rfl ?_); refine store_event (t := 37) (p := 45) (v := ?vo_w16) (w1 := (wr.setCell ⟨g, lo + (x16_1 : Int).toNat, none⟩ (.int .u32 (((rd x0_1 x16_1) - ((IntKind.u64.wrap ((IntKind.u64.wrap (a2 * (IntKind.u64.wrap (rd l1 x16_1)))) + x7_1)) % 4294967296)) % 4294967296)))) ?hg ?ho ?hn ?hr ?_; (case ho => rfl); (case hg => rfl); (case hn => rfl); (case hr => first | (go_simp; done) | (go_simp; rfl)); intro w16 hw; have hg : wr.grownBy w16 (some g) := (by rw [hw]; exact HP15.2); have hp_ : PT 37 w16 w0.heap.size (fun k_ => (P0_ k_ ∨ w.heap.size ≤ k_)) g L co lo m pre suf y167 := (by rw [hw, Ny167.out]; exact HP15.1); clear HP15; have n0_ := Aside0.mk (hp_); have n1_ := Aside0.mk ((by rw [hw]; exact below_set (HB.out) GB.out : Below w0.heap.size w0 w16)); have n2_ := Aside0.mk (Kept.of_grown (S := (fun k_ => P0_ k_)) hg (by repeat (first | (with_reducible first | exact HK.out | apply Kept.alloc | apply Kept.drewN | apply Kept.drew) | exact HK.out)) (PT_ok HO_0.out)); clear HO_0; clear HB; clear HK; have HO_0 := n0_; have HB := n1_; have HK := n2_; clear n0_ n1_ n2_; clear hg hw hp_))
        go_roundg k1
        case measure => have := HK1.out; omega
        case rel => exact ⟨(y167), ((IntKind.u64.wrap ((IntKind.u64.wrap (a2 * (IntKind.u64.wrap (rd l1 x16_1)))) + x7_1)) / 4294967296), (wrap64 (x16_1 + 1)), (by first | rfl | (simp; done) | (simp [*]; done)), (by first | rfl | (simp; done) | (simp [*]; done)), H', ⟨by have := HK1.out; omega⟩, ⟨by (with_reducible repeat (first | apply PT_alloc | apply PT_drewN | apply PT_drew)); exact HO_0.out⟩, ⟨by repeat (first | (with_reducible first | exact HK.out | apply Kept.alloc | apply Kept.drewN | apply Kept.drew) | exact HK.out)⟩, ⟨by repeat (first | (with_reducible first | exact HB.out | apply below_alloc | apply pw_below_drewN | apply below_drew1) | exact HB.out)⟩⟩
      ·
       rw [if_neg c7] at H
       exact absurd H (by simp)
     ·
      rw [if_neg c6] at H
      exact absurd H (by simp)
    ·
     rw [if_neg c5] at H
     exact absurd H (by simp)
   ·
    rw [if_neg c4] at H
    have c4b0 : decide (x16_1 < (l1.length : Int)) = false := decide_eq_false c4
    clear c4
    obtain ⟨ji17, hji17⟩ : ∃ j_ : Int, (wrap64 ((m : Int) - 1)) = j_ := ⟨_, rfl⟩
    replace H : (if 0 ≤ (ji17) then (if (ji17) < (m : Int) then (some (decide ((IntKind.u64.wrap (rd x0_1 (ji17))) < x7_1), (x0_1.set ((ji17) : Int).toNat (((rd x0_1 (ji17)) - ((x7_1) % 4294967296)) % 4294967296)))) else (none)) else (none)) = some (p1_, p2_) := by first | (rw [hji17] at H; exact H) | (simp only [hji17] at H ⊢; exact H)
    have hji17w : (IntKind.i64.wrap ((m : Int) - 1)) = ji17 := (i64_w _).trans hji17
    (try (have hji17r := hji17; simp only [hji11] at hji17r))
    (try (have hji17wr := hji17w; simp only [hji11] at hji17wr))
    by_cases c18 : 0 ≤ (ji17)
    ·
     rw [if_pos c18] at H
     have c18b0 : decide (0 ≤ (ji17)) = true := decide_eq_true c18
     clear c18
     by_cases c19 : (ji17) < (m : Int)
     ·
      rw [if_pos c19] at H
      have c19b0 : decide ((ji17) < (m : Int)) = true := decide_eq_true c19
      clear c19
      obtain ⟨y170, hy170⟩ : ∃ y_ : List Int, y_ = (x0_1.set ((ji17) : Int).toNat (((rd x0_1 (ji17)) - ((x7_1) % 4294967296)) % 4294967296)) := ⟨_, rfl⟩
      replace H : (some (decide ((IntKind.u64.wrap (rd x0_1 (ji17))) < x7_1), y170)) = some (p1_, p2_) := by first | (rw [hy170]; with_reducible exact H) | (have H2_ := (Option.bind_some _ _).symm.trans H; rw [hy170]; with_reducible exact H2_) | (have H2_ := (Option.bind_some _ _).symm.trans H; with_reducible exact H2_) | with_reducible exact H | (rw [hy170]; exact H) | exact H
      have Ny170 := Aside0.mk hy170
      clear hy170
      simp only [Option.some.injEq, Prod.mk.injEq] at H
      obtain ⟨rfl, rfl⟩ := H
      have p168 : 0 ≤ ((ji17) : Int) := of_decide_eq_true (by first | (with_reducible assumption) | assumption)
      have q168 : (ji17) < (m : Int) := of_decide_eq_true (by first | (with_reducible assumption) | assumption)
      have hx168_0 := (PT_cell HO_0.out (ji17) p168 q168).1
      replace p168 := eq_true p168
      replace q168 := eq_true q168
      have p169 : 0 ≤ ((ji17) : Int) := of_decide_eq_true (by first | (with_reducible assumption) | assumption)
      have q169 : (ji17) < (m : Int) := of_decide_eq_true (by first | (with_reducible assumption) | assumption)
      have hx169_0 := (PT_cell HO_0.out (ji17) p169 q169).1
      replace p169 := eq_true p169
      replace q169 := eq_true q169
      have p20 : 0 ≤ ((ji17) : Int) := of_decide_eq_true (by first | (with_reducible assumption) | assumption)
      have q20 : ((ji17) : Int) < ((m : Int) : Int) := of_decide_eq_true (by first | (with_reducible assumption) | assumption)
      obtain ⟨hx20_0, hf20_0⟩ := PT_cell HO_0.out ((ji17) : Int) p20 q20
      replace p20 := eq_true p20
      replace q20 := eq_true q20
      obtain ⟨hy22_, hz22_⟩ := PT_cell HO_0.out ((ji17) : Int) (of_decide_eq_true (by first | (with_reducible assumption) | assumption)) (of_decide_eq_true (by first | (with_reducible assumption) | assumption))
      have HP22 := PT_put HO_0.out ((ji17) : Int) (((rd x0_1 (ji17)) - ((x7_1) % 4294967296)) % 4294967296) (of_decide_eq_true (by first | (with_reducible assumption) | assumption)) (of_decide_eq_true (by first | (with_reducible assumption) | assumption))
      go_wp2_with (first | ((with_reducible refine gate_store (t := 37) (p := 64) rfl ?_); refine store_event (t := 37) (p := 64) (v := ?vo_w23) (w1 := (wr.setCell ⟨g, lo + ((ji17) : Int).toNat, none⟩ (.int .u32 (((rd x0_1 (ji17)) - ((x7_1) % 4294967296)) % 4294967296)))) ?hg ?ho ?hn ?hr ?_; (case ho => rfl); (case hg => rfl); (case hn => rfl); (case hr => first | (go_simp; done) | (go_simp; rfl)); intro w23 hw; have hg : wr.grownBy w23 (some g) := (by rw [hw]; exact HP22.2); have hp_ : PT 37 w23 w0.heap.size (fun k_ => (P0_ k_ ∨ w.heap.size ≤ k_)) g L co lo m pre suf y170 := (by rw [hw, Ny170.out]; exact HP22.1); clear HP22; have n0_ := Aside0.mk (hp_); have n1_ := Aside0.mk ((by rw [hw]; exact below_set (HB.out) GB.out : Below w0.heap.size w0 w23)); have n2_ := Aside0.mk (Kept.of_grown (S := (fun k_ => P0_ k_)) hg (by repeat (first | (with_reducible first | exact HK.out | apply Kept.alloc | apply Kept.drewN | apply Kept.drew) | exact HK.out)) (PT_ok HO_0.out)); clear HO_0; clear HB; clear HK; have HO_0 := n0_; have HB := n1_; have HK := n2_; clear n0_ n1_ n2_; clear hg hw hp_))
      go_ret
      exact ⟨by first | rfl | (simp [errW_none, errW_some] <;> rfl) | (simp only [← hji17]; first | rfl | (simp [errW_none, errW_some] <;> rfl)) | (simp [*, errW_none, errW_some] <;> rfl), by (with_reducible repeat (first | apply Kd.R_alloc | apply Kd.R_drewN | apply Kd.R_drew)); (first | exact HO_0.out.1 | (rw [← List.append_assoc]; exact HO_0.out.1)), by repeat (first | (with_reducible first | exact HB.out | apply below_alloc | apply pw_below_drewN | apply below_drew1) | exact HB.out), by repeat (first | (with_reducible first | exact HK.out | apply Kept.alloc | apply Kept.drewN | apply Kept.drew) | exact HK.out)⟩
     ·
      rw [if_neg c19] at H
      exact absurd H (by simp)
    ·
     rw [if_neg c18] at H
     exact absurd H (by simp)
mutual
def bignat_divLong.l0 : Nat → Int → Int → List Int → List Int → List Int → Int → Int → Int → Option (List Int × List Int)
 | 0, _, _, _, _, _, _, _, _ => none
 | k + 1, x6, x7, x8, x9, x10, x11, x12, x13 => if x13 ≥ 0 then (if 0 ≤ (wrap64 (x13 + x6)) then (if (wrap64 (x13 + x6)) < (x8.length : Int) then (if 0 ≤ (wrap64 ((wrap64 (x13 + x6)) - 1)) then (if (wrap64 ((wrap64 (x13 + x6)) - 1)) < (x8.length : Int) then (if x11 = 0 then (none) else (bignat_divLong.l1 k x6 x7 x8 x9 x10 x11 x12 x13 (IntKind.u64.wrap (Int.tdiv (Go.bits .or .u64 (IntKind.u64.wrap ((IntKind.u64.wrap (rd x8 (wrap64 (x13 + x6)))) * 4294967296)) (IntKind.u64.wrap (rd x8 (wrap64 ((wrap64 (x13 + x6)) - 1))))) x11)) (Int.tmod (Go.bits .or .u64 (IntKind.u64.wrap ((IntKind.u64.wrap (rd x8 (wrap64 (x13 + x6)))) * 4294967296)) (IntKind.u64.wrap (rd x8 (wrap64 ((wrap64 (x13 + x6)) - 1))))) x11))) else (none)) else (none)) else (none)) else (none)) else (if 0 ≤ x6 then (if (x6 : Int).toNat ≤ 70368744177664 then ((some (List.replicate (x6 : Int).toNat 0 : List Int)).bind fun y205 => (bignat_divLong.l2 k x7 x8 x10 y205 (y205.length : Int) 0)) else (none)) else (none))
def bignat_divLong.j3 : Nat → Int → Int → List Int → List Int → List Int → Int → Int → Int → Int → Option (List Int × List Int)
 | 0, _, _, _, _, _, _, _, _, _ => none
 | k + 1, x6, x7, x8, x9, x10, x11, x12, x13, x15 => if 0 ≤ x13 then (if x13 ≤ (wrap64 ((wrap64 (x13 + x6)) + 1)) then (if (wrap64 ((wrap64 (x13 + x6)) + 1)) ≤ (x8.length : Int) then ((bignat_subtractScaled.fp k x8 x13 (wrap64 ((wrap64 (x13 + x6)) + 1)) x9 x15).bind fun bt196 => (if bt196.1 = true then ((bignat_addBack.fp k bt196.2 x13 (wrap64 ((wrap64 (x13 + x6)) + 1)) x9).bind fun t202 => (if x13 < (x10.length : Int) then (bignat_divLong.l0 k x6 x7 t202 x9 (x10.set (x13 : Int).toNat ((IntKind.u64.wrap (x15 - 1)) % 4294967296)) x11 x12 (wrap64 (x13 - 1))) else (none))) else (if x13 < (x10.length : Int) then (bignat_divLong.l0 k x6 x7 bt196.2 x9 (x10.set (x13 : Int).toNat ((x15) % 4294967296)) x11 x12 (wrap64 (x13 - 1))) else (none)))) else (none)) else (none)) else (none)
def bignat_divLong.l1 : Nat → Int → Int → List Int → List Int → List Int → Int → Int → Int → Int → Int → Option (List Int × List Int)
 | 0, _, _, _, _, _, _, _, _, _, _ => none
 | k + 1, x6, x7, x8, x9, x10, x11, x12, x13, x15, x16 => if (x15 / 4294967296) = 0 then (if 0 ≤ (wrap64 ((wrap64 (x13 + x6)) - 2)) then (if (wrap64 ((wrap64 (x13 + x6)) - 2)) < (x8.length : Int) then (bignat_divLong.j2 k x6 x7 x8 x9 x10 x11 x12 x13 x15 x16 (decide ((IntKind.u64.wrap (x15 * x12)) > (Go.bits .or .u64 (IntKind.u64.wrap (x16 * 4294967296)) (IntKind.u64.wrap (rd x8 (wrap64 ((wrap64 (x13 + x6)) - 2)))))))) else (none)) else (none)) else (bignat_divLong.j2 k x6 x7 x8 x9 x10 x11 x12 x13 x15 x16 true)
def bignat_divLong.j2 : Nat → Int → Int → List Int → List Int → List Int → Int → Int → Int → Int → Int → Bool → Option (List Int × List Int)
 | 0, _, _, _, _, _, _, _, _, _, _, _ => none
 | k + 1, x6, x7, x8, x9, x10, x11, x12, x13, x15, x16, x106 => if x106 = true then (if ((IntKind.u64.wrap (x16 + x11)) / 4294967296) = 0 then (bignat_divLong.l1 k x6 x7 x8 x9 x10 x11 x12 x13 (IntKind.u64.wrap (x15 - 1)) (IntKind.u64.wrap (x16 + x11))) else (bignat_divLong.j3 k x6 x7 x8 x9 x10 x11 x12 x13 (IntKind.u64.wrap (x15 - 1)))) else (bignat_divLong.j3 k x6 x7 x8 x9 x10 x11 x12 x13 x15)
def bignat_divLong.l2 : Nat → Int → List Int → List Int → List Int → Int → Int → Option (List Int × List Int)
 | 0, _, _, _, _, _, _ => none
 | k + 1, x7, x8, x10, x17, x144, x145 => if x145 < x144 then (if 0 ≤ (wrap64 (x145 + 1)) then (if (wrap64 (x145 + 1)) < (x8.length : Int) then (if 0 ≤ x145 then (if x145 < (x8.length : Int) then (if 0 ≤ x7 then (if x145 < (x17.length : Int) then (bignat_divLong.l2 k x7 x8 x10 (x17.set (x145 : Int).toNat ((shr .u64 (Go.bits .or .u64 (IntKind.u64.wrap ((IntKind.u64.wrap (rd x8 (wrap64 (x145 + 1)))) * 4294967296)) (IntKind.u64.wrap (rd x8 x145))) x7) % 4294967296)) x144 (wrap64 (x145 + 1))) else (none)) else (none)) else (none)) else (none)) else (none)) else (none)) else ((bignat_trim.f k x10).bind fun t211 => ((bignat_trim.f k x17).bind fun t214 => (some (t211, t214))))
end
def bignat_divLong.f (k : Nat) (l0 : List Int) (l1 : List Int) : Option (List Int × List Int) := if 0 ≤ (wrap64 ((l1.length : Int) - 1)) then (if (wrap64 ((l1.length : Int) - 1)) < (l1.length : Int) then ((bits_LeadingZeros32.f (rd l1 (wrap64 ((l1.length : Int) - 1)))).bind fun t177 => ((bignat_shiftLeft.f k l0 (IntKind.u64.wrap (t177)) (wrap64 ((l0.length : Int) + 1))).bind fun t178 => ((bignat_shiftLeft.f k l1 (IntKind.u64.wrap (t177)) (l1.length : Int)).bind fun t181 => (if 0 ≤ (wrap64 ((wrap64 ((l0.length : Int) - (l1.length : Int))) + 1)) then (if (wrap64 ((wrap64 ((l0.length : Int) - (l1.length : Int))) + 1) : Int).toNat ≤ 70368744177664 then (if (wrap64 ((l1.length : Int) - 1)) < (t181.length : Int) then (if 0 ≤ (wrap64 ((l1.length : Int) - 2)) then (if (wrap64 ((l1.length : Int) - 2)) < (t181.length : Int) then (bignat_divLong.l0 k (l1.length : Int) (IntKind.u64.wrap (t177)) t178 t181 (List.replicate (wrap64 ((wrap64 ((l0.length : Int) - (l1.length : Int))) + 1) : Int).toNat 0) (IntKind.u64.wrap (rd t181 (wrap64 ((l1.length : Int) - 1)))) (IntKind.u64.wrap (rd t181 (wrap64 ((l1.length : Int) - 2)))) (wrap64 ((l0.length : Int) - (l1.length : Int)))) else (none)) else (none)) else (none)) else (none)) else (none))))) else (none)) else (none)
theorem bignat_divLong.mono_l : ∀ k, (∀ y0 y1 y2 y3 y4 y5 y6 y7, LeO (bignat_divLong.l0 k y0 y1 y2 y3 y4 y5 y6 y7) (bignat_divLong.l0 (k + 1) y0 y1 y2 y3 y4 y5 y6 y7)) ∧ (∀ y0 y1 y2 y3 y4 y5 y6 y7 y8, LeO (bignat_divLong.j3 k y0 y1 y2 y3 y4 y5 y6 y7 y8) (bignat_divLong.j3 (k + 1) y0 y1 y2 y3 y4 y5 y6 y7 y8)) ∧ (∀ y0 y1 y2 y3 y4 y5 y6 y7 y8 y9, LeO (bignat_divLong.l1 k y0 y1 y2 y3 y4 y5 y6 y7 y8 y9) (bignat_divLong.l1 (k + 1) y0 y1 y2 y3 y4 y5 y6 y7 y8 y9)) ∧ (∀ y0 y1 y2 y3 y4 y5 y6 y7 y8 y9 y10, LeO (bignat_divLong.j2 k y0 y1 y2 y3 y4 y5 y6 y7 y8 y9 y10) (bignat_divLong.j2 (k + 1) y0 y1 y2 y3 y4 y5 y6 y7 y8 y9 y10)) ∧ (∀ y0 y1 y2 y3 y4 y5, LeO (bignat_divLong.l2 k y0 y1 y2 y3 y4 y5) (bignat_divLong.l2 (k + 1) y0 y1 y2 y3 y4 y5))
 | 0 => ⟨fun _ _ _ _ _ _ _ _ r h => by simp [bignat_divLong.l0] at h, fun _ _ _ _ _ _ _ _ _ r h => by simp [bignat_divLong.j3] at h, fun _ _ _ _ _ _ _ _ _ _ r h => by simp [bignat_divLong.l1] at h, fun _ _ _ _ _ _ _ _ _ _ _ r h => by simp [bignat_divLong.j2] at h, fun _ _ _ _ _ _ r h => by simp [bignat_divLong.l2] at h⟩
 | k + 1 => by
  obtain ⟨ih0, ih1, ih2, ih3, ih4⟩ := bignat_divLong.mono_l k
  refine ⟨?_, ?_, ?_, ?_, ?_⟩
  ·
   intro y0 y1 y2 y3 y4 y5 y6 y7
   unfold bignat_divLong.l0
   repeat' first
   | (with_reducible exact ih0 _ _ _ _ _ _ _ _)
   | (with_reducible exact ih1 _ _ _ _ _ _ _ _ _)
   | (with_reducible exact ih2 _ _ _ _ _ _ _ _ _ _)
   | (with_reducible exact ih3 _ _ _ _ _ _ _ _ _ _ _)
   | (with_reducible exact ih4 _ _ _ _ _ _)
   | (with_reducible exact bignat_addBack.monop _ _ _ _ _)
   | (with_reducible exact bignat_shiftLeft.mono _ _ _ _)
   | (with_reducible exact bignat_subtractScaled.monop _ _ _ _ _ _)
   | (with_reducible exact bignat_trim.mono _ _)
   | (with_reducible exact LeO.refl _)
   | (with_reducible exact LeO.none _)
   | (with_reducible refine LeO.ite ?_ ?_)
   | (with_reducible refine LeO.bind ?_ (fun _ => ?_))
   | exact ih0 _ _ _ _ _ _ _ _
   | exact ih1 _ _ _ _ _ _ _ _ _
   | exact ih2 _ _ _ _ _ _ _ _ _ _
   | exact ih3 _ _ _ _ _ _ _ _ _ _ _
   | exact ih4 _ _ _ _ _ _
   | exact bignat_addBack.monop _ _ _ _ _
   | exact bignat_shiftLeft.mono _ _ _ _
   | exact bignat_subtractScaled.monop _ _ _ _ _ _
   | exact bignat_trim.mono _ _
   | exact LeO.none _
   | refine LeO.ite ?_ ?_
   | refine LeO.bind ?_ (fun _ => ?_)
  ·
   intro y0 y1 y2 y3 y4 y5 y6 y7 y8
   unfold bignat_divLong.j3
   repeat' first
   | (with_reducible exact ih0 _ _ _ _ _ _ _ _)
   | (with_reducible exact ih1 _ _ _ _ _ _ _ _ _)
   | (with_reducible exact ih2 _ _ _ _ _ _ _ _ _ _)
   | (with_reducible exact ih3 _ _ _ _ _ _ _ _ _ _ _)
   | (with_reducible exact ih4 _ _ _ _ _ _)
   | (with_reducible exact bignat_addBack.monop _ _ _ _ _)
   | (with_reducible exact bignat_shiftLeft.mono _ _ _ _)
   | (with_reducible exact bignat_subtractScaled.monop _ _ _ _ _ _)
   | (with_reducible exact bignat_trim.mono _ _)
   | (with_reducible exact LeO.refl _)
   | (with_reducible exact LeO.none _)
   | (with_reducible refine LeO.ite ?_ ?_)
   | (with_reducible refine LeO.bind ?_ (fun _ => ?_))
   | exact ih0 _ _ _ _ _ _ _ _
   | exact ih1 _ _ _ _ _ _ _ _ _
   | exact ih2 _ _ _ _ _ _ _ _ _ _
   | exact ih3 _ _ _ _ _ _ _ _ _ _ _
   | exact ih4 _ _ _ _ _ _
   | exact bignat_addBack.monop _ _ _ _ _
   | exact bignat_shiftLeft.mono _ _ _ _
   | exact bignat_subtractScaled.monop _ _ _ _ _ _
   | exact bignat_trim.mono _ _
   | exact LeO.none _
   | refine LeO.ite ?_ ?_
   | refine LeO.bind ?_ (fun _ => ?_)
  ·
   intro y0 y1 y2 y3 y4 y5 y6 y7 y8 y9
   unfold bignat_divLong.l1
   repeat' first
   | (with_reducible exact ih0 _ _ _ _ _ _ _ _)
   | (with_reducible exact ih1 _ _ _ _ _ _ _ _ _)
   | (with_reducible exact ih2 _ _ _ _ _ _ _ _ _ _)
   | (with_reducible exact ih3 _ _ _ _ _ _ _ _ _ _ _)
   | (with_reducible exact ih4 _ _ _ _ _ _)
   | (with_reducible exact bignat_addBack.monop _ _ _ _ _)
   | (with_reducible exact bignat_shiftLeft.mono _ _ _ _)
   | (with_reducible exact bignat_subtractScaled.monop _ _ _ _ _ _)
   | (with_reducible exact bignat_trim.mono _ _)
   | (with_reducible exact LeO.refl _)
   | (with_reducible exact LeO.none _)
   | (with_reducible refine LeO.ite ?_ ?_)
   | (with_reducible refine LeO.bind ?_ (fun _ => ?_))
   | exact ih0 _ _ _ _ _ _ _ _
   | exact ih1 _ _ _ _ _ _ _ _ _
   | exact ih2 _ _ _ _ _ _ _ _ _ _
   | exact ih3 _ _ _ _ _ _ _ _ _ _ _
   | exact ih4 _ _ _ _ _ _
   | exact bignat_addBack.monop _ _ _ _ _
   | exact bignat_shiftLeft.mono _ _ _ _
   | exact bignat_subtractScaled.monop _ _ _ _ _ _
   | exact bignat_trim.mono _ _
   | exact LeO.none _
   | refine LeO.ite ?_ ?_
   | refine LeO.bind ?_ (fun _ => ?_)
  ·
   intro y0 y1 y2 y3 y4 y5 y6 y7 y8 y9 y10
   unfold bignat_divLong.j2
   repeat' first
   | (with_reducible exact ih0 _ _ _ _ _ _ _ _)
   | (with_reducible exact ih1 _ _ _ _ _ _ _ _ _)
   | (with_reducible exact ih2 _ _ _ _ _ _ _ _ _ _)
   | (with_reducible exact ih3 _ _ _ _ _ _ _ _ _ _ _)
   | (with_reducible exact ih4 _ _ _ _ _ _)
   | (with_reducible exact bignat_addBack.monop _ _ _ _ _)
   | (with_reducible exact bignat_shiftLeft.mono _ _ _ _)
   | (with_reducible exact bignat_subtractScaled.monop _ _ _ _ _ _)
   | (with_reducible exact bignat_trim.mono _ _)
   | (with_reducible exact LeO.refl _)
   | (with_reducible exact LeO.none _)
   | (with_reducible refine LeO.ite ?_ ?_)
   | (with_reducible refine LeO.bind ?_ (fun _ => ?_))
   | exact ih0 _ _ _ _ _ _ _ _
   | exact ih1 _ _ _ _ _ _ _ _ _
   | exact ih2 _ _ _ _ _ _ _ _ _ _
   | exact ih3 _ _ _ _ _ _ _ _ _ _ _
   | exact ih4 _ _ _ _ _ _
   | exact bignat_addBack.monop _ _ _ _ _
   | exact bignat_shiftLeft.mono _ _ _ _
   | exact bignat_subtractScaled.monop _ _ _ _ _ _
   | exact bignat_trim.mono _ _
   | exact LeO.none _
   | refine LeO.ite ?_ ?_
   | refine LeO.bind ?_ (fun _ => ?_)
  ·
   intro y0 y1 y2 y3 y4 y5
   unfold bignat_divLong.l2
   repeat' first
   | (with_reducible exact ih0 _ _ _ _ _ _ _ _)
   | (with_reducible exact ih1 _ _ _ _ _ _ _ _ _)
   | (with_reducible exact ih2 _ _ _ _ _ _ _ _ _ _)
   | (with_reducible exact ih3 _ _ _ _ _ _ _ _ _ _ _)
   | (with_reducible exact ih4 _ _ _ _ _ _)
   | (with_reducible exact bignat_addBack.monop _ _ _ _ _)
   | (with_reducible exact bignat_shiftLeft.mono _ _ _ _)
   | (with_reducible exact bignat_subtractScaled.monop _ _ _ _ _ _)
   | (with_reducible exact bignat_trim.mono _ _)
   | (with_reducible exact LeO.refl _)
   | (with_reducible exact LeO.none _)
   | (with_reducible refine LeO.ite ?_ ?_)
   | (with_reducible refine LeO.bind ?_ (fun _ => ?_))
   | exact ih0 _ _ _ _ _ _ _ _
   | exact ih1 _ _ _ _ _ _ _ _ _
   | exact ih2 _ _ _ _ _ _ _ _ _ _
   | exact ih3 _ _ _ _ _ _ _ _ _ _ _
   | exact ih4 _ _ _ _ _ _
   | exact bignat_addBack.monop _ _ _ _ _
   | exact bignat_shiftLeft.mono _ _ _ _
   | exact bignat_subtractScaled.monop _ _ _ _ _ _
   | exact bignat_trim.mono _ _
   | exact LeO.none _
   | refine LeO.ite ?_ ?_
   | refine LeO.bind ?_ (fun _ => ?_)
theorem bignat_divLong.mono : ∀ a0 a1 k, LeO (bignat_divLong.f k a0 a1) (bignat_divLong.f (k + 1) a0 a1) := by
 intro a0 a1 k
 obtain ⟨ih0, ih1, ih2, ih3, ih4⟩ := bignat_divLong.mono_l k
 unfold bignat_divLong.f
 repeat' first
   | (with_reducible exact ih0 _ _ _ _ _ _ _ _)
   | (with_reducible exact ih1 _ _ _ _ _ _ _ _ _)
   | (with_reducible exact ih2 _ _ _ _ _ _ _ _ _ _)
   | (with_reducible exact ih3 _ _ _ _ _ _ _ _ _ _ _)
   | (with_reducible exact ih4 _ _ _ _ _ _)
   | (with_reducible exact bignat_addBack.monop _ _ _ _ _)
   | (with_reducible exact bignat_shiftLeft.mono _ _ _ _)
   | (with_reducible exact bignat_subtractScaled.monop _ _ _ _ _ _)
   | (with_reducible exact bignat_trim.mono _ _)
   | (with_reducible exact LeO.refl _)
   | (with_reducible exact LeO.none _)
   | (with_reducible refine LeO.ite ?_ ?_)
   | (with_reducible refine LeO.bind ?_ (fun _ => ?_))
   | exact ih0 _ _ _ _ _ _ _ _
   | exact ih1 _ _ _ _ _ _ _ _ _
   | exact ih2 _ _ _ _ _ _ _ _ _ _
   | exact ih3 _ _ _ _ _ _ _ _ _ _ _
   | exact ih4 _ _ _ _ _ _
   | exact bignat_addBack.monop _ _ _ _ _
   | exact bignat_shiftLeft.mono _ _ _ _
   | exact bignat_subtractScaled.monop _ _ _ _ _ _
   | exact bignat_trim.mono _ _
   | exact LeO.none _
   | refine LeO.ite ?_ ?_
   | refine LeO.bind ?_ (fun _ => ?_)
def bignat_divLong.T6 : Bool × List (List Nat × List Nat) := (true, [([], []), ([], []), ([1], [1]), ([0, 2], [0, 2]), ([3], [3]), ([4], [4]), ([], []), ([], []), ([7], [7]), ([6, 8], [6, 8]), ([9], [9]), ([10], [10]), ([5, 0, 1, 2, 3, 4, 5], [5]), ([11, 12, 0, 1, 2, 3, 4, 5, 6, 7, 8, 9, 10, 11, 12], [11])])
def bignat_divLong.B6 : List Nat := [0, 0, 2, 7, 15, 31, 0, 0, 128, 448, 960, 1984, 63, 8191]
theorem bignat_divLong.tab6 : rtab .any (opsOf Tryd.f91 6) = bignat_divLong.T6 := by kernel_rfl
theorem bignat_divLong.bits6 : waitsOk bignat_divLong.T6.2 bignat_divLong.B6 = true := by kernel_rfl
def bignat_divLong.T10 : Bool × List (List Nat × List Nat) := (true, [([], []), ([], []), ([], []), ([1, 2], [1, 2]), ([0, 3], [0, 3]), ([4], [4]), ([5], [5]), ([6], [6]), ([], []), ([], []), ([], []), ([9, 10], [9, 10]), ([11], [11]), ([8, 12], [8, 12]), ([13], [13]), ([14], [14]), ([7, 15], [7, 15]), ([16, 0, 1, 2, 3, 4, 5, 6, 7, 8, 9, 10, 11, 12, 13, 14, 15, 16], [16])])
def bignat_divLong.B10 : List Nat := [0, 0, 0, 6, 15, 31, 63, 127, 0, 0, 0, 1536, 3584, 7936, 16128, 32512, 65535, 131071]
theorem bignat_divLong.tab10 : rtab .any (opsOf Tryd.f91 10) = bignat_divLong.T10 := by kernel_rfl
theorem bignat_divLong.bits10 : waitsOk bignat_divLong.T10.2 bignat_divLong.B10 = true := by kernel_rfl
def bignat_divLong.T11 : Bool × List (List Nat × List Nat) := (true, [([], []), ([], []), ([0, 1], [0, 1]), ([], []), ([], []), ([3, 4], [3, 4]), ([2, 0, 1, 2], [2]), ([5, 6, 0, 1, 2, 3, 4, 5, 6], [5])])
def bignat_divLong.B11 : List Nat := [0, 0, 3, 0, 0, 24, 7, 127]
theorem bignat_divLong.tab11 : rtab .any (opsOf Tryd.f91 11) = bignat_divLong.T11 := by kernel_rfl
theorem bignat_divLong.bits11 : waitsOk bignat_divLong.T11.2 bignat_divLong.B11 = true := by kernel_rfl
def bignat_divLong.T24 : Bool × List (List Nat × List Nat) := (true, [([], []), ([], []), ([], []), ([], []), ([3], [3]), ([2, 4], [2, 4]), ([5], [5]), ([6], [6]), ([7], [7]), ([], []), ([], []), ([9, 10], [9, 10]), ([11], [11]), ([12], [12]), ([8, 13], [8, 13]), ([], []), ([14, 15], [14, 15]), ([16], [16]), ([0, 1, 0, 1, 2, 3, 4, 5, 6, 7, 8, 9, 10, 11, 12, 13, 14, 15, 16, 17], [0, 1]), ([18, 17, 0, 1, 2, 3, 4, 5, 6, 7, 8, 9, 10, 11, 12, 13, 14, 15, 16, 17], [17, 18])])
def bignat_divLong.B24 : List Nat := [0, 0, 0, 0, 8, 28, 60, 124, 252, 0, 0, 1536, 3584, 7680, 16380, 0, 65532, 131068, 262143, 524287]
theorem bignat_divLong.tab24 : rtab .any (opsOf Tryd.f91 24) = bignat_divLong.T24 := by kernel_rfl
theorem bignat_divLong.bits24 : waitsOk bignat_divLong.T24.2 bignat_divLong.B24 = true := by kernel_rfl
set_option maxHeartbeats 8000000 in
set_option maxRecDepth 100000 in
theorem bignat_divLong.calls (k : Nat) (A0 : Option Addr) (c0 : Nat) (l0 : List Int) (A1 : Option Addr) (c1 : Nat) (l1 : List Int) (r1 : List Int) (r2 : List Int) (w : World) (hr0 : Kd.C (Kd.int .u32) w A0 l0.length l0) (hc0 : l0.length ≤ c0) (hr1 : Kd.C (Kd.int .u32) w A1 l1.length l1) (hc1 : l1.length ≤ c1) (h : bignat_divLong.f k l0 l1 = some (r1, r2)) :
  Calls Tryd.prog 91 #[.slice A0 l0.length c0, .slice A1 l1.length c1] w fun e w' => ∃ v0_ v1_ : Value, e = .returned (.tuple #[v0_, v1_]) ∧ Kd.R (Kd.int .u32) 37 w' w.heap.size (fun k_ => some k_ ≠ (v1_ : Value).ownBlock) v0_ r1 ∧ Kd.R (Kd.int .u32) 37 w' w.heap.size (fun k_ => some k_ ≠ (v0_ : Value).ownBlock) v1_ r2 ∧ Below w.heap.size w w' := by
 have HR0 := Aside0.mk hr0
 have HC0 := Aside0.mk hc0
 clear hr0 hc0
 have HR1 := Aside0.mk hr1
 have HC1 := Aside0.mk hc1
 clear hr1 hc1
 have HB := Aside0.mk (Below.refl w.heap.size w)
 have H : (if 0 ≤ (wrap64 ((l1.length : Int) - 1)) then (if (wrap64 ((l1.length : Int) - 1)) < (l1.length : Int) then ((bits_LeadingZeros32.f (rd l1 (wrap64 ((l1.length : Int) - 1)))).bind fun t177 => ((bignat_shiftLeft.f k l0 (IntKind.u64.wrap (t177)) (wrap64 ((l0.length : Int) + 1))).bind fun t178 => ((bignat_shiftLeft.f k l1 (IntKind.u64.wrap (t177)) (l1.length : Int)).bind fun t181 => (if 0 ≤ (wrap64 ((wrap64 ((l0.length : Int) - (l1.length : Int))) + 1)) then (if (wrap64 ((wrap64 ((l0.length : Int) - (l1.length : Int))) + 1) : Int).toNat ≤ 70368744177664 then (if (wrap64 ((l1.length : Int) - 1)) < (t181.length : Int) then (if 0 ≤ (wrap64 ((l1.length : Int) - 2)) then (if (wrap64 ((l1.length : Int) - 2)) < (t181.length : Int) then (bignat_divLong.l0 k (l1.length : Int) (IntKind.u64.wrap (t177)) t178 t181 (List.replicate (wrap64 ((wrap64 ((l0.length : Int) - (l1.length : Int))) + 1) : Int).toNat 0) (IntKind.u64.wrap (rd t181 (wrap64 ((l1.length : Int) - 1)))) (IntKind.u64.wrap (rd t181 (wrap64 ((l1.length : Int) - 2)))) (wrap64 ((l0.length : Int) - (l1.length : Int)))) else (none)) else (none)) else (none)) else (none)) else (none))))) else (none)) else (none)) = some (r1, r2) := h
 clear h
 obtain ⟨ji3, hji3⟩ : ∃ j_ : Int, (wrap64 ((l1.length : Int) - 1)) = j_ := ⟨_, rfl⟩
 replace H : (if 0 ≤ (ji3) then (if (ji3) < (l1.length : Int) then ((bits_LeadingZeros32.f (rd l1 (ji3))).bind fun t177 => ((bignat_shiftLeft.f k l0 (IntKind.u64.wrap (t177)) (wrap64 ((l0.length : Int) + 1))).bind fun t178 => ((bignat_shiftLeft.f k l1 (IntKind.u64.wrap (t177)) (l1.length : Int)).bind fun t181 => (if 0 ≤ (wrap64 ((wrap64 ((l0.length : Int) - (l1.length : Int))) + 1)) then (if (wrap64 ((wrap64 ((l0.length : Int) - (l1.length : Int))) + 1) : Int).toNat ≤ 70368744177664 then (if (ji3) < (t181.length : Int) then (if 0 ≤ (wrap64 ((l1.length : Int) - 2)) then (if (wrap64 ((l1.length : Int) - 2)) < (t181.length : Int) then (bignat_divLong.l0 k (l1.length : Int) (IntKind.u64.wrap (t177)) t178 t181 (List.replicate (wrap64 ((wrap64 ((l0.length : Int) - (l1.length : Int))) + 1) : Int).toNat 0) (IntKind.u64.wrap (rd t181 (ji3))) (IntKind.u64.wrap (rd t181 (wrap64 ((l1.length : Int) - 2)))) (wrap64 ((l0.length : Int) - (l1.length : Int)))) else (none)) else (none)) else (none)) else (none)) else (none))))) else (none)) else (none)) = some (r1, r2) := by first | (rw [hji3] at H; exact H) | (simp only [hji3] at H ⊢; exact H)
 have hji3w : (IntKind.i64.wrap ((l1.length : Int) - 1)) = ji3 := (i64_w _).trans hji3
 by_cases c4 : 0 ≤ (ji3)
 ·
  rw [if_pos c4] at H
  have c4b0 : decide (0 ≤ (ji3)) = true := decide_eq_true c4
  clear c4
  by_cases c5 : (ji3) < (l1.length : Int)
  ·
   rw [if_pos c5] at H
   have c5b0 : decide ((ji3) < (l1.length : Int)) = true := decide_eq_true c5
   clear c5
   replace H := Option.bind_eq_some_iff.mp H
   obtain ⟨t177, A60, H⟩ := H
   replace H : ((bignat_shiftLeft.f k l0 (IntKind.u64.wrap (t177)) (wrap64 ((l0.length : Int) + 1))).bind fun t178 => ((bignat_shiftLeft.f k l1 (IntKind.u64.wrap (t177)) (l1.length : Int)).bind fun t181 => (if 0 ≤ (wrap64 ((wrap64 ((l0.length : Int) - (l1.length : Int))) + 1)) then (if (wrap64 ((wrap64 ((l0.length : Int) - (l1.length : Int))) + 1) : Int).toNat ≤ 70368744177664 then (if (ji3) < (t181.length : Int) then (if 0 ≤ (wrap64 ((l1.length : Int) - 2)) then (if (wrap64 ((l1.length : Int) - 2)) < (t181.length : Int) then (bignat_divLong.l0 k (l1.length : Int) (IntKind.u64.wrap (t177)) t178 t181 (List.replicate (wrap64 ((wrap64 ((l0.length : Int) - (l1.length : Int))) + 1) : Int).toNat 0) (IntKind.u64.wrap (rd t181 (ji3))) (IntKind.u64.wrap (rd t181 (wrap64 ((l1.length : Int) - 2)))) (wrap64 ((l0.length : Int) - (l1.length : Int)))) else (none)) else (none)) else (none)) else (none)) else (none)))) = some (r1, r2) := H
   have A6 := Aside0.mk A60
   clear A60
   replace H := Option.bind_eq_some_iff.mp H
   obtain ⟨t178, A70, H⟩ := H
   replace H : ((bignat_shiftLeft.f k l1 (IntKind.u64.wrap (t177)) (l1.length : Int)).bind fun t181 => (if 0 ≤ (wrap64 ((wrap64 ((l0.length : Int) - (l1.length : Int))) + 1)) then (if (wrap64 ((wrap64 ((l0.length : Int) - (l1.length : Int))) + 1) : Int).toNat ≤ 70368744177664 then (if (ji3) < (t181.length : Int) then (if 0 ≤ (wrap64 ((l1.length : Int) - 2)) then (if (wrap64 ((l1.length : Int) - 2)) < (t181.length : Int) then (bignat_divLong.l0 k (l1.length : Int) (IntKind.u64.wrap (t177)) t178 t181 (List.replicate (wrap64 ((wrap64 ((l0.length : Int) - (l1.length : Int))) + 1) : Int).toNat 0) (IntKind.u64.wrap (rd t181 (ji3))) (IntKind.u64.wrap (rd t181 (wrap64 ((l1.length : Int) - 2)))) (wrap64 ((l0.length : Int) - (l1.length : Int)))) else (none)) else (none)) else (none)) else (none)) else (none))) = some (r1, r2) := H
   have A7 := Aside0.mk A70
   clear A70
   replace H := Option.bind_eq_some_iff.mp H
   obtain ⟨t181, A80, H⟩ := H
   replace H : (if 0 ≤ (wrap64 ((wrap64 ((l0.length : Int) - (l1.length : Int))) + 1)) then (if (wrap64 ((wrap64 ((l0.length : Int) - (l1.length : Int))) + 1) : Int).toNat ≤ 70368744177664 then (if (ji3) < (t181.length : Int) then (if 0 ≤ (wrap64 ((l1.length : Int) - 2)) then (if (wrap64 ((l1.length : Int) - 2)) < (t181.length : Int) then (bignat_divLong.l0 k (l1.length : Int) (IntKind.u64.wrap (t177)) t178 t181 (List.replicate (wrap64 ((wrap64 ((l0.length : Int) - (l1.length : Int))) + 1) : Int).toNat 0) (IntKind.u64.wrap (rd t181 (ji3))) (IntKind.u64.wrap (rd t181 (wrap64 ((l1.length : Int) - 2)))) (wrap64 ((l0.length : Int) - (l1.length : Int)))) else (none)) else (none)) else (none)) else (none)) else (none)) = some (r1, r2) := H
   have A8 := Aside0.mk A80
   clear A80
   obtain ⟨ji9, hji9⟩ : ∃ j_ : Int, (wrap64 ((wrap64 ((l0.length : Int) - (l1.length : Int))) + 1)) = j_ := ⟨_, rfl⟩
   replace H : (if 0 ≤ (ji9) then (if (ji9 : Int).toNat ≤ 70368744177664 then (if (ji3) < (t181.length : Int) then (if 0 ≤ (wrap64 ((l1.length : Int) - 2)) then (if (wrap64 ((l1.length : Int) - 2)) < (t181.length : Int) then (bignat_divLong.l0 k (l1.length : Int) (IntKind.u64.wrap (t177)) t178 t181 (List.replicate (ji9 : Int).toNat 0) (IntKind.u64.wrap (rd t181 (ji3))) (IntKind.u64.wrap (rd t181 (wrap64 ((l1.length : Int) - 2)))) (wrap64 ((l0.length : Int) - (l1.length : Int)))) else (none)) else (none)) else (none)) else (none)) else (none)) = some (r1, r2) := by first | (rw [hji9] at H; exact H) | (simp only [hji9] at H ⊢; exact H)
   (try rw [hji9] at A6)
   (try rw [hji9] at A7)
   (try rw [hji9] at A8)
   have hji9w : (IntKind.i64.wrap ((wrap64 ((l0.length : Int) - (l1.length : Int))) + 1)) = ji9 := (i64_w _).trans hji9
   (try (have hji9r := hji9; simp only [hji3] at hji9r))
   (try (have hji9wr := hji9w; simp only [hji3] at hji9wr))
   by_cases c10 : 0 ≤ (ji9)
   ·
    rw [if_pos c10] at H
    have c10b0 := eq_true c10
    have c10b1 : decide (0 ≤ (ji9)) = true := decide_eq_true c10
    clear c10
    by_cases c11 : (ji9 : Int).toNat ≤ 70368744177664
    ·
     rw [if_pos c11] at H
     have c11b0 := eq_true c11
     have c11b1 : decide ((ji9 : Int).toNat ≤ 70368744177664) = true := decide_eq_true c11
     clear c11
     obtain ⟨y184, hy184⟩ : ∃ y_ : List Int, y_ = (List.replicate (ji9 : Int).toNat 0) := ⟨_, rfl⟩
     replace H : (if (ji3) < (t181.length : Int) then (if 0 ≤ (wrap64 ((l1.length : Int) - 2)) then (if (wrap64 ((l1.length : Int) - 2)) < (t181.length : Int) then (bignat_divLong.l0 k (l1.length : Int) (IntKind.u64.wrap (t177)) t178 t181 y184 (IntKind.u64.wrap (rd t181 (ji3))) (IntKind.u64.wrap (rd t181 (wrap64 ((l1.length : Int) - 2)))) (wrap64 ((l0.length : Int) - (l1.length : Int)))) else (none)) else (none)) else (none)) = some (r1, r2) := by first | (rw [hy184]; with_reducible exact H) | (have H2_ := (Option.bind_some _ _).symm.trans H; rw [hy184]; with_reducible exact H2_) | (have H2_ := (Option.bind_some _ _).symm.trans H; with_reducible exact H2_) | with_reducible exact H | (rw [hy184]; exact H) | exact H
     have Ny184 := Aside0.mk hy184
     clear hy184
     by_cases c12 : (ji3) < (t181.length : Int)
     ·
      rw [if_pos c12] at H
      have c12b0 : decide ((ji3) < (t181.length : Int)) = true := decide_eq_true c12
      clear c12
      obtain ⟨ji13, hji13⟩ : ∃ j_ : Int, (wrap64 ((l1.length : Int) - 2)) = j_ := ⟨_, rfl⟩
      replace H : (if 0 ≤ (ji13) then (if (ji13) < (t181.length : Int) then (bignat_divLong.l0 k (l1.length : Int) (IntKind.u64.wrap (t177)) t178 t181 y184 (IntKind.u64.wrap (rd t181 (ji3))) (IntKind.u64.wrap (rd t181 (ji13))) (wrap64 ((l0.length : Int) - (l1.length : Int)))) else (none)) else (none)) = some (r1, r2) := by first | (rw [hji13] at H; exact H) | (simp only [hji13] at H ⊢; exact H)
      (try rw [hji13] at A6)
      (try rw [hji13] at A7)
      (try rw [hji13] at A8)
      have hji13w : (IntKind.i64.wrap ((l1.length : Int) - 2)) = ji13 := (i64_w _).trans hji13
      (try (have hji13r := hji13; simp only [hji3, hji9] at hji13r))
      (try (have hji13wr := hji13w; simp only [hji3, hji9] at hji13wr))
      by_cases c14 : 0 ≤ (ji13)
      ·
       rw [if_pos c14] at H
       have c14b0 : decide (0 ≤ (ji13)) = true := decide_eq_true c14
       clear c14
       by_cases c15 : (ji13) < (t181.length : Int)
       ·
        rw [if_pos c15] at H
        have c15b0 : decide ((ji13) < (t181.length : Int)) = true := decide_eq_true c15
        clear c15
        have H' := Aside0.mk H
        clear H
        have p176 : 0 ≤ ((ji3) : Int) := of_decide_eq_true (by first | (with_reducible assumption) | assumption)
        have q176 : (ji3) < (l1.length : Int) := of_decide_eq_true (by first | (with_reducible assumption) | assumption)
        obtain ⟨ad176, e176, hx176_0⟩ := Kd.at_int HR1.out (ji3) p176 q176
        cases e176
        replace p176 := eq_true p176
        replace q176 := eq_true q176
        go_enter Tryd.func91, Tryd.ntmps91
        try go_wp2_with (first | ((with_reducible refine gate_callee (f := 102) rfl ?_); refine goesL_ (some 26) rfl rfl Tryd.func102 (by kernel_rfl) rfl #[.int .u32 (rd l1 (ji3))] rfl (by (try simp only [List.map_toArray, List.map_cons, List.map_nil]); first | done | (simp only [hji3]; rfl) | rfl | (simp only [List.length_drop, List.length_take]; rfl) | (go_simp; done) | (go_simp; rfl) | (go_simp; (try simp only [IntKind.wrap_u8, IntKind.wrap_u32, IntKind.wrap_u64]); omega)) ?_; (with_reducible refine (bits_LeadingZeros32.calls (rd l1 (ji3)) t177 _ A6.out).mono ?_); rintro e w' ⟨rfl, ⟨nd, rfl⟩⟩; refine ⟨_, rfl, ?_⟩) | ((with_reducible refine gate_callee (f := 103) rfl ?_); refine goesL_ (some 33) rfl rfl Tryd.func103 (by kernel_rfl) rfl #[.slice A0 l0.length c0, .int .u64 (IntKind.u64.wrap (t177)), .int .i64 (wrap64 ((l0.length : Int) + 1))] rfl (by (try simp only [List.map_toArray, List.map_cons, List.map_nil]); first | done | rfl | (simp only [List.length_drop, List.length_take]; rfl) | (go_simp; done) | (go_simp; rfl) | (go_simp; (try simp only [IntKind.wrap_u8, IntKind.wrap_u32, IntKind.wrap_u64]); omega)) ?_; (with_reducible refine (bignat_shiftLeft.calls k _ _ l0 (IntKind.u64.wrap (t177)) (wrap64 ((l0.length : Int) + 1)) t178 _ ?side1 ?side2 A7.out).mono ?_); (case side1 => repeat (first | exact HR0.out | (with_reducible refine Kd.C_alloc ?_ _) | (with_reducible refine Kd.C_drewN ?_ _) | (with_reducible refine Kd.C_drew ?_))); (case side2 => exact HC0.out); rintro e w16 ⟨v179, rfl, ho0, hb⟩; refine ⟨_, rfl, ?_⟩; have n0_ := Aside0.mk (Kd.R_lower ho0 (below_size (by repeat (first | (with_reducible first | exact HB.out | apply below_alloc | apply pw_below_drewN | apply below_drew1) | exact HB.out)))); have n1_ := Aside0.mk (below_step (by repeat (first | (with_reducible first | exact HB.out | apply below_alloc | apply pw_below_drewN | apply below_drew1) | exact HB.out)) hb); clear HB; have HO180 := n0_; have HB := n1_; clear n0_ n1_; (try clear hb); (try clear hb2); (try clear hk); (try clear hi); (try clear ho0)) | ((with_reducible refine gate_callee (f := 103) rfl ?_); refine goesL_ (some 37) rfl rfl Tryd.func103 (by kernel_rfl) rfl #[.slice (some ad176) l1.length c1, .int .u64 (IntKind.u64.wrap (t177)), .int .i64 (l1.length : Int)] rfl (by (try simp only [List.map_toArray, List.map_cons, List.map_nil]); first | done | rfl | (simp only [List.length_drop, List.length_take]; rfl) | (go_simp; done) | (go_simp; rfl) | (go_simp; (try simp only [IntKind.wrap_u8, IntKind.wrap_u32, IntKind.wrap_u64]); omega)) ?_; (with_reducible refine (bignat_shiftLeft.calls k _ _ l1 (IntKind.u64.wrap (t177)) (l1.length : Int) t181 _ ?side1 ?side2 A8.out).mono ?_); (case side1 => repeat (first | exact (Kd.C_below HR1.out HB.out) | (with_reducible refine Kd.C_alloc ?_ _) | (with_reducible refine Kd.C_drewN ?_ _) | (with_reducible refine Kd.C_drew ?_))); (case side2 => exact HC1.out); rintro e w17 ⟨v182, rfl, ho0, hb⟩; refine ⟨_, rfl, ?_⟩; have n0_ := Aside0.mk (Kd.R_elder' (by (with_reducible repeat (first | apply Kd.R_alloc | apply Kd.R_drewN | apply Kd.R_drew)); exact HO180.out) (Kd.R_base ho0) hb); have n1_ := Aside0.mk (Kd.R_lower (Kd.R_new' ho0 (Kd.R_lt (by (with_reducible repeat (first | apply Kd.R_alloc | apply Kd.R_drewN | apply Kd.R_drew)); exact HO180.out))) (below_size (by repeat (first | (with_reducible first | exact HB.out | apply below_alloc | apply pw_below_drewN | apply below_drew1) | exact HB.out)))); have n2_ := Aside0.mk (below_step (by repeat (first | (with_reducible first | exact HB.out | apply below_alloc | apply pw_below_drewN | apply below_drew1) | exact HB.out)) hb); clear HO180; clear HB; have HO180 := n0_; have HO183 := n1_; have HB := n2_; clear n0_ n1_ n2_; (try clear hb); (try clear hb2); (try clear hk); (try clear hi); (try clear ho0)) | ((with_reducible refine gate_dst (N := 43) rfl ?_); refine Kd.R_make (Kd.int .u32) _ 37 rfl (N := 43) rfl 23 _ _ rfl ji9 rfl rfl Tryd.underlying23 (.int .u32 0) 4 info37 rfl (by decide) (by omega) 0 (ok := fun _ => True) (okp := fun _ => True) rfl (fun _ hk => hk) trivial (of_decide_eq_true (by first | (with_reducible assumption) | assumption)) (Nat.le_trans (Nat.mul_le_mul_right _ (of_decide_eq_true (by first | (with_reducible assumption) | assumption) : ji9.toNat ≤ 70368744177664)) (by omega)) (Below.refl _ _) (Nat.le_refl _) ?_; intro v185 w18 ho19 hb hg_ hnew_; clear hg_ hnew_; (first | rw [← Ny184.out] at ho19 | (simp only [Int.reduceToNat] at ho19; rw [← Ny184.out] at ho19)); have n0_ := Aside0.mk (Kd.R_elder' (by (with_reducible repeat (first | apply Kd.R_alloc | apply Kd.R_drewN | apply Kd.R_drew)); exact HO180.out) (Kd.R_base ho19) hb); have n1_ := Aside0.mk (Kd.R_elder' (by (with_reducible repeat (first | apply Kd.R_alloc | apply Kd.R_drewN | apply Kd.R_drew)); exact HO183.out) (Kd.R_base ho19) hb); have n2_ := Aside0.mk (Kd.R_lower (Kd.R_new' (Kd.R_new' ho19 (Kd.R_lt (by (with_reducible repeat (first | apply Kd.R_alloc | apply Kd.R_drewN | apply Kd.R_drew)); exact HO180.out))) (Kd.R_lt (by (with_reducible repeat (first | apply Kd.R_alloc | apply Kd.R_drewN | apply Kd.R_drew)); exact HO183.out))) (below_size (by repeat (first | (with_reducible first | exact HB.out | apply below_alloc | apply pw_below_drewN | apply below_drew1) | exact HB.out)))); have n3_ := Aside0.mk (below_step (by repeat (first | (with_reducible first | exact HB.out | apply below_alloc | apply pw_below_drewN | apply below_drew1) | exact HB.out)) hb); clear HO180; clear HO183; clear HB; have HO180 := n0_; have HO183 := n1_; have HO186 := n2_; have HB := n3_; clear n0_ n1_ n2_ n3_; clear hb ho19))
        have n0_ := Aside0.mk (Kd.R_drew HO180.out)
        have n1_ := Aside0.mk (Kd.R_drew HO183.out)
        have n2_ := Aside0.mk (Kd.R_drew HO186.out)
        have n3_ := Aside0.mk (below_drew1 HB.out)
        clear HO180
        clear HO183
        clear HO186
        clear HB
        have HO180 := n0_
        have HO183 := n1_
        have HO186 := n2_
        have HB := n3_
        clear n0_ n1_ n2_ n3_
        obtain ⟨Ao21, co21, eo21⟩ := Kd.R_slice HO183.out
        (first | subst eo21 | (injection eo21 with f1_ f2_ f3_; have f4_ := f1_.symm; have f5_ := f3_.symm; clear f1_ f2_ f3_; subst f4_; subst f5_))
        have p187 : 0 ≤ ((ji3) : Int) := of_decide_eq_true (by first | (with_reducible assumption) | assumption)
        have q187 : (ji3) < (t181.length : Int) := of_decide_eq_true (by first | (with_reducible assumption) | assumption)
        obtain ⟨ad187, e187, hx187_0⟩ := Kd.at_int (Kd.R_reads' HO183.out).2.2 (ji3) p187 q187
        cases e187
        replace p187 := eq_true p187
        replace q187 := eq_true q187
        have p188 : 0 ≤ ((ji13) : Int) := of_decide_eq_true (by first | (with_reducible assumption) | assumption)
        have q188 : (ji13) < (t181.length : Int) := of_decide_eq_true (by first | (with_reducible assumption) | assumption)
        obtain ⟨ad188, e188, hx188_0⟩ := Kd.at_int (Kd.R_reads' HO183.out).2.2 (ji13) p188 q188
        obtain rfl : ad187 = ad188 := (by injection e188)
        replace p188 := eq_true p188
        replace q188 := eq_true q188
        refine start_ (n := 14) (S := fun w' => w'.cell? (ad187.add ((ji3)).toNat) = some (.int .u32 (rd t181 (ji3))) ∧ w'.cell? (ad187.add ((ji13)).toNat) = some (.int .u32 (rd t181 (ji13)))) (ds := []) #[false, false, false, false, false, false, false, false, false, false, false, false, false, false] (by kernel_rfl) rfl rfl ⟨hx187_0, hx188_0⟩ (fun hHeld => ?_); refine with_tabW bignat_divLong.tab6 bignat_divLong.bits6 (fun HT_ HW_ => ?_)
        generalize w18.drew = w20 at HO180 HO183 HO186 HB hx187_0 hx188_0 hHeld ⊢
        refine pure_ (i := 0) (N := some 44) (v := ?_) (a' := ?_) #[true, false, false, false, false, false, false, false, false, false, false, false, false, false] rfl rfl (any_of HT_.out (by kernel_rfl)) (fun _ _ _ h => h) (Or.inl ⟨by rfl, ?_⟩) ?_ ?_
        rotate_left
        ·
         intro w'
         go_simp
         with_reducible rfl
        rotate_left
        ·
         simp only [Act.put, List.setIfInBounds_toArray, List.set_cons_zero, List.set_cons_succ, i64_w, i32_w]
         rfl
        refine pure_ (i := 1) (N := some 45) (v := ?_) (a' := ?_) #[true, true, false, false, false, false, false, false, false, false, false, false, false, false] rfl rfl (any_of HT_.out (by kernel_rfl)) (fun _ _ _ h => h) (Or.inl ⟨by rfl, ?_⟩) ?_ ?_
        rotate_left
        ·
         intro w'
         go_simp
         with_reducible rfl
        rotate_left
        ·
         simp only [Act.put, List.setIfInBounds_toArray, List.set_cons_zero, List.set_cons_succ, i64_w, i32_w]
         rfl
        refine pure_ (i := 2) (N := some 46) (v := ?_) (a' := ?_) #[true, true, true, false, false, false, false, false, false, false, false, false, false, false] rfl rfl (any_of HT_.out (by kernel_rfl)) (fun _ _ _ h => h) (Or.inl ⟨by rfl, ?_⟩) ?_ ?_
        rotate_left
        ·
         intro w'
         go_simp
         with_reducible rfl
        rotate_left
        ·
         simp only [Act.put, List.setIfInBounds_toArray, List.set_cons_zero, List.set_cons_succ, i64_w, i32_w]
         rfl
        refine pure_ (i := 3) (N := some 47) (v := ?_) (a' := ?_) #[true, true, true, true, false, false, false, false, false, false, false, false, false, false] rfl rfl (any_of HT_.out (by kernel_rfl)) (fun _ _ _ h => h) (Or.inl ⟨by rfl, ?_⟩) ?_ ?_
        rotate_left
        ·
         intro w'
         go_simp
         with_reducible rfl
        rotate_left
        ·
         simp only [Act.put, List.setIfInBounds_toArray, List.set_cons_zero, List.set_cons_succ, i64_w, i32_w]
         rfl
        refine pure_ (i := 6) (N := some 50) (v := ?_) (a' := ?_) #[true, true, true, true, false, false, true, false, false, false, false, false, false, false] rfl rfl (any_of HT_.out (by kernel_rfl)) (fun _ _ _ h => h) (Or.inl ⟨by rfl, ?_⟩) ?_ ?_
        rotate_left
        ·
         intro w'
         go_simp
         with_reducible rfl
        rotate_left
        ·
         simp only [Act.put, List.setIfInBounds_toArray, List.set_cons_zero, List.set_cons_succ, i64_w, i32_w]
         rfl
        refine pure_ (i := 7) (N := some 51) (v := ?_) (a' := ?_) #[true, true, true, true, false, false, true, true, false, false, false, false, false, false] rfl rfl (any_of HT_.out (by kernel_rfl)) (fun _ _ _ h => h) (Or.inl ⟨by rfl, ?_⟩) ?_ ?_
        rotate_left
        ·
         intro w'
         go_simp
         with_reducible rfl
        rotate_left
        ·
         simp only [Act.put, List.setIfInBounds_toArray, List.set_cons_zero, List.set_cons_succ, i64_w, i32_w]
         rfl
        refine pure_ (i := 8) (N := some 52) (v := ?_) (a' := ?_) #[true, true, true, true, false, false, true, true, true, false, false, false, false, false] rfl rfl (any_of HT_.out (by kernel_rfl)) (fun _ _ _ h => h) (Or.inl ⟨by rfl, ?_⟩) ?_ ?_
        rotate_left
        ·
         intro w'
         go_simp
         with_reducible rfl
        rotate_left
        ·
         simp only [Act.put, List.setIfInBounds_toArray, List.set_cons_zero, List.set_cons_succ, i64_w, i32_w]
         rfl
        refine pure_ (i := 9) (N := some 53) (v := ?_) (a' := ?_) #[true, true, true, true, false, false, true, true, true, true, false, false, false, false] rfl rfl (any_of HT_.out (by kernel_rfl)) (fun _ _ _ h => h) (Or.inl ⟨by rfl, ?_⟩) ?_ ?_
        rotate_left
        ·
         intro w'
         go_simp
         with_reducible rfl
        rotate_left
        ·
         simp only [Act.put, List.setIfInBounds_toArray, List.set_cons_zero, List.set_cons_succ, i64_w, i32_w]
         rfl
        refine take_ (i := 4) (N := some 48) (v := ?_) (a' := ?_) #[true, true, true, true, true, false, true, true, true, true, false, false, false, false] rfl rfl (take_ofW HT_.out HW_.out (by kernel_rfl)) (fun _ _ _ h => h) (Or.inl ⟨by rfl, ?_⟩) hHeld ?_ ?_
        rotate_left
        ·
         rintro w' ⟨s0, s1⟩
         go_simp
         with_reducible rfl
        rotate_left
        ·
         simp only [Act.put, List.setIfInBounds_toArray, List.set_cons_zero, List.set_cons_succ, i64_w, i32_w]
         rfl
        refine pure_ (i := 5) (N := some 49) (v := ?_) (a' := ?_) #[true, true, true, true, true, true, true, true, true, true, false, false, false, false] rfl rfl (any_of HT_.out (by kernel_rfl)) (fun _ _ _ h => h) (Or.inl ⟨by rfl, ?_⟩) ?_ ?_
        rotate_left
        ·
         intro w'
         go_simp
         with_reducible rfl
        rotate_left
        ·
         simp only [Act.put, List.setIfInBounds_toArray, List.set_cons_zero, List.set_cons_succ, i64_w, i32_w]
         rfl
        refine pure_ (i := 12) (N := some 11) (v := ?_) (a' := ?_) #[true, true, true, true, true, true, true, true, true, true, false, false, true, false] rfl rfl (any_of HT_.out (by kernel_rfl)) (fun _ _ _ h => h) (Or.inl ⟨by rfl, ?_⟩) ?_ ?_
        rotate_left
        ·
         intro w'
         go_simp
         with_reducible rfl
        rotate_left
        ·
         simp only [Act.put, List.setIfInBounds_toArray, List.set_cons_zero, List.set_cons_succ, i64_w, i32_w]
         rfl
        refine take_ (i := 10) (N := some 54) (v := ?_) (a' := ?_) #[true, true, true, true, true, true, true, true, true, true, true, false, true, false] rfl rfl (take_ofW HT_.out HW_.out (by kernel_rfl)) (fun _ _ _ h => h) (Or.inl ⟨by rfl, ?_⟩) hHeld ?_ ?_
        rotate_left
        ·
         rintro w' ⟨s0, s1⟩
         go_simp
         with_reducible rfl
        rotate_left
        ·
         simp only [Act.put, List.setIfInBounds_toArray, List.set_cons_zero, List.set_cons_succ, i64_w, i32_w]
         rfl
        refine pure_ (i := 11) (N := some 55) (v := ?_) (a' := ?_) #[true, true, true, true, true, true, true, true, true, true, true, true, true, false] rfl rfl (any_of HT_.out (by kernel_rfl)) (fun _ _ _ h => h) (Or.inl ⟨by rfl, ?_⟩) ?_ ?_
        rotate_left
        ·
         intro w'
         go_simp
         with_reducible rfl
        rotate_left
        ·
         simp only [Act.put, List.setIfInBounds_toArray, List.set_cons_zero, List.set_cons_succ, i64_w, i32_w]
         rfl
        refine pure_ (i := 13) (N := some 12) (v := ?_) (a' := ?_) #[true, true, true, true, true, true, true, true, true, true, true, true, true, true] rfl rfl (any_of HT_.out (by kernel_rfl)) (fun _ _ _ h => h) (Or.inl ⟨by rfl, ?_⟩) ?_ ?_
        rotate_left
        ·
         intro w'
         go_simp
         with_reducible rfl
        rotate_left
        ·
         simp only [Act.put, List.setIfInBounds_toArray, List.set_cons_zero, List.set_cons_succ, i64_w, i32_w]
         rfl
        refine done_ (done_of HT_.out (by kernel_rfl)) ?_
        try go_wp2
        go_loopg [13] k (fun kq v13 w' => ∃ (x8_1 : List Int) (x10_1 : List Int) (x13_1 : Int), v13 = .int .i64 x13_1 ∧ Aside0 (bignat_divLong.l0 kq (l1.length : Int) (IntKind.u64.wrap (t177)) x8_1 t181 x10_1 (IntKind.u64.wrap (rd t181 (ji3))) (IntKind.u64.wrap (rd t181 (ji13))) x13_1 = some (r1, r2)) ∧ Aside0 (kq ≤ k) ∧ Aside0 (Kd.R (Kd.int .u32) 37 w' w.heap.size (fun k_ => some k_ ≠ ((.slice (some ad187) t181.length co21) : Value).ownBlock ∧ some k_ ≠ (v185 : Value).ownBlock) v179 x8_1) ∧ Aside0 (Kd.R (Kd.int .u32) 37 w' w.heap.size (fun k_ => some k_ ≠ (v179 : Value).ownBlock ∧ some k_ ≠ (v185 : Value).ownBlock) (.slice (some ad187) t181.length co21) t181) ∧ Aside0 (Kd.R (Kd.int .u32) 37 w' w.heap.size (fun k_ => some k_ ≠ (v179 : Value).ownBlock ∧ some k_ ≠ ((.slice (some ad187) t181.length co21) : Value).ownBlock) v185 x10_1) ∧ Aside0 (Below w.heap.size w w'))
        case atStart => exact ⟨(t178), (y184), (wrap64 ((l0.length : Int) - (l1.length : Int))), (by first | rfl | (simp; done) | (simp [*]; done)), H', ⟨Nat.le_refl _⟩, ⟨by (with_reducible repeat (first | apply Kd.R_alloc | apply Kd.R_drewN | apply Kd.R_drew)); exact Kd.R_mono HO180.out (fun _ hk => ⟨hk.1.2, hk.2⟩)⟩, ⟨by (with_reducible repeat (first | apply Kd.R_alloc | apply Kd.R_drewN | apply Kd.R_drew)); exact Kd.R_mono HO183.out (fun _ hk => ⟨hk.1.2, hk.2⟩)⟩, ⟨by (with_reducible repeat (first | apply Kd.R_alloc | apply Kd.R_drewN | apply Kd.R_drew)); exact Kd.R_mono HO186.out (fun _ hk => ⟨hk.1.2, hk.2⟩)⟩, ⟨by repeat (first | (with_reducible first | exact HB.out | apply below_alloc | apply pw_below_drewN | apply below_drew1) | exact HB.out)⟩⟩
        case round =>
         clear H'
         try clear c1
         try clear p1
         try clear q1
         try clear hx1
         try clear p2
         try clear c4
         try clear c4b0
         try clear c5
         try clear c5b0
         try clear p6
         try clear c9
         try clear c10
         try clear c10b0
         try clear c10b1
         try clear c11
         try clear c11b0
         try clear c11b1
         try clear c12
         try clear c12b0
         try clear c14
         try clear c14b0
         try clear c15
         try clear c15b0
         try clear p17
         try clear q17
         try clear hx17
         try clear p18
         try clear q18
         try clear hx18
         try clear hx176_0
         try clear hx187_0
         try clear hx188_0
         try clear p176
         try clear p187
         try clear p188
         try clear q176
         try clear q187
         try clear q188
         obtain ⟨x8_1, x10_1, x13_1, rfl, HA, HK1, HO_8, HO_9, HO_10, HB⟩ := hrel
         cases gk with
         | zero => exact absurd HA.out (by simp [bignat_divLong.l0])
         | succ k1 =>
          have H := HA.out
          clear HA
          simp only [bignat_divLong.l0] at H
          by_cases c22 : x13_1 ≥ 0
          ·
           rw [if_pos c22] at H
           have c22b0 : decide (0 ≤ x13_1) = true := decide_eq_true c22
           clear c22
           obtain ⟨ji23, hji23⟩ : ∃ j_ : Int, (wrap64 (x13_1 + (l1.length : Int))) = j_ := ⟨_, rfl⟩
           replace H : (if 0 ≤ (ji23) then (if (ji23) < (x8_1.length : Int) then (if 0 ≤ (wrap64 ((ji23) - 1)) then (if (wrap64 ((ji23) - 1)) < (x8_1.length : Int) then (if (IntKind.u64.wrap (rd t181 (ji3))) = 0 then (none) else (bignat_divLong.l1 k1 (l1.length : Int) (IntKind.u64.wrap (t177)) x8_1 t181 x10_1 (IntKind.u64.wrap (rd t181 (ji3))) (IntKind.u64.wrap (rd t181 (ji13))) x13_1 (IntKind.u64.wrap (Int.tdiv (Go.bits .or .u64 (IntKind.u64.wrap ((IntKind.u64.wrap (rd x8_1 (ji23))) * 4294967296)) (IntKind.u64.wrap (rd x8_1 (wrap64 ((ji23) - 1))))) (IntKind.u64.wrap (rd t181 (ji3))))) (Int.tmod (Go.bits .or .u64 (IntKind.u64.wrap ((IntKind.u64.wrap (rd x8_1 (ji23))) * 4294967296)) (IntKind.u64.wrap (rd x8_1 (wrap64 ((ji23) - 1))))) (IntKind.u64.wrap (rd t181 (ji3)))))) else (none)) else (none)) else (none)) else (none)) = some (r1, r2) := by first | (rw [hji23] at H; exact H) | (simp only [hji23] at H ⊢; exact H)
           have hji23w : (IntKind.i64.wrap (x13_1 + (l1.length : Int))) = ji23 := (i64_w _).trans hji23
           (try (have hji23r := hji23; simp only [hji3, hji9, hji13] at hji23r))
           (try (have hji23wr := hji23w; simp only [hji3, hji9, hji13] at hji23wr))
           by_cases c24 : 0 ≤ (ji23)
           ·
            rw [if_pos c24] at H
            have c24b0 : decide (0 ≤ (ji23)) = true := decide_eq_true c24
            clear c24
            by_cases c25 : (ji23) < (x8_1.length : Int)
            ·
             rw [if_pos c25] at H
             have c25b0 : decide ((ji23) < (x8_1.length : Int)) = true := decide_eq_true c25
             clear c25
             obtain ⟨ji26, hji26⟩ : ∃ j_ : Int, (wrap64 ((ji23) - 1)) = j_ := ⟨_, rfl⟩
             replace H : (if 0 ≤ (ji26) then (if (ji26) < (x8_1.length : Int) then (if (IntKind.u64.wrap (rd t181 (ji3))) = 0 then (none) else (bignat_divLong.l1 k1 (l1.length : Int) (IntKind.u64.wrap (t177)) x8_1 t181 x10_1 (IntKind.u64.wrap (rd t181 (ji3))) (IntKind.u64.wrap (rd t181 (ji13))) x13_1 (IntKind.u64.wrap (Int.tdiv (Go.bits .or .u64 (IntKind.u64.wrap ((IntKind.u64.wrap (rd x8_1 (ji23))) * 4294967296)) (IntKind.u64.wrap (rd x8_1 (ji26)))) (IntKind.u64.wrap (rd t181 (ji3))))) (Int.tmod (Go.bits .or .u64 (IntKind.u64.wrap ((IntKind.u64.wrap (rd x8_1 (ji23))) * 4294967296)) (IntKind.u64.wrap (rd x8_1 (ji26)))) (IntKind.u64.wrap (rd t181 (ji3)))))) else (none)) else (none)) = some (r1, r2) := by first | (rw [hji26] at H; exact H) | (simp only [hji26] at H ⊢; exact H)
             have hji26w : (IntKind.i64.wrap ((ji23) - 1)) = ji26 := (i64_w _).trans hji26
             (try (have hji26r := hji26; simp only [hji3, hji9, hji13, hji23] at hji26r))
             (try (have hji26wr := hji26w; simp only [hji3, hji9, hji13, hji23] at hji26wr))
             by_cases c27 : 0 ≤ (ji26)
             ·
              rw [if_pos c27] at H
              have c27b0 : decide (0 ≤ (ji26)) = true := decide_eq_true c27
              clear c27
              by_cases c28 : (ji26) < (x8_1.length : Int)
              ·
               rw [if_pos c28] at H
               have c28b0 : decide ((ji26) < (x8_1.length : Int)) = true := decide_eq_true c28
               clear c28
               by_cases c29 : (IntKind.u64.wrap (rd t181 (ji3))) = 0
               ·
                rw [if_pos c29] at H
                exact absurd H (by simp)
               ·
                rw [if_neg c29] at H
                have c29b0 : ((IntKind.u64.wrap (rd t181 (ji3))) == 0) = false := beq_eq_false_iff_ne.mpr c29
                have c29b1 : ((IntKind.u64.wrap (rd t181 (ji3))) != 0) = true := bne_iff_ne.mpr c29
                have HC30 := Aside0.mk H
                clear H
                try go_wp2
                have n0_ := Aside0.mk (Kd.R_drew HO_8.out)
                have n1_ := Aside0.mk (Kd.R_drew HO_9.out)
                have n2_ := Aside0.mk (Kd.R_drew HO_10.out)
                have n3_ := Aside0.mk (below_drew1 HB.out)
                clear HO_8
                clear HO_9
                clear HO_10
                clear HB
                have HO_8 := n0_
                have HO_9 := n1_
                have HO_10 := n2_
                have HB := n3_
                clear n0_ n1_ n2_ n3_
                obtain ⟨Ao32, co32, eo32⟩ := Kd.R_slice HO_8.out
                (first | subst eo32 | (injection eo32 with f1_ f2_ f3_; have f4_ := f1_.symm; have f5_ := f3_.symm; clear f1_ f2_ f3_; subst f4_; subst f5_))
                have p189 : 0 ≤ ((ji23) : Int) := of_decide_eq_true (by first | (with_reducible assumption) | assumption)
                have q189 : (ji23) < (x8_1.length : Int) := of_decide_eq_true (by first | (with_reducible assumption) | assumption)
                obtain ⟨ad189, e189, hx189_0⟩ := Kd.at_int (Kd.R_reads' HO_8.out).2.2 (ji23) p189 q189
                cases e189
                replace p189 := eq_true p189
                replace q189 := eq_true q189
                have p190 : 0 ≤ ((ji26) : Int) := of_decide_eq_true (by first | (with_reducible assumption) | assumption)
                have q190 : (ji26) < (x8_1.length : Int) := of_decide_eq_true (by first | (with_reducible assumption) | assumption)
                obtain ⟨ad190, e190, hx190_0⟩ := Kd.at_int (Kd.R_reads' HO_8.out).2.2 (ji26) p190 q190
                obtain rfl : ad189 = ad190 := (by injection e190)
                replace p190 := eq_true p190
                replace q190 := eq_true q190
                refine start_ (n := 18) (S := fun w' => w'.cell? (ad189.add ((ji23)).toNat) = some (.int .u32 (rd x8_1 (ji23))) ∧ w'.cell? (ad189.add ((ji26)).toNat) = some (.int .u32 (rd x8_1 (ji26)))) (ds := []) #[false, false, false, false, false, false, false, false, false, false, false, false, false, false, false, false, false, false] (by kernel_rfl) rfl rfl ⟨hx189_0, hx190_0⟩ (fun hHeld => ?_); refine with_tabW bignat_divLong.tab10 bignat_divLong.bits10 (fun HT_ HW_ => ?_)
                generalize wr.drew = w31 at HO_8 HO_9 HO_10 HB hx189_0 hx190_0 hHeld ⊢
                refine pure_ (i := 0) (N := some 64) (v := ?_) (a' := ?_) #[true, false, false, false, false, false, false, false, false, false, false, false, false, false, false, false, false, false] rfl rfl (any_of HT_.out (by kernel_rfl)) (fun _ _ _ h => h) (Or.inl ⟨by rfl, ?_⟩) ?_ ?_
                rotate_left
                ·
                 intro w'
                 go_simp
                 with_reducible rfl
                rotate_left
                ·
                 simp only [Act.put, List.setIfInBounds_toArray, List.set_cons_zero, List.set_cons_succ, i64_w, i32_w]
                 rfl
                refine pure_ (i := 1) (N := some 65) (v := ?_) (a' := ?_) #[true, true, false, false, false, false, false, false, false, false, false, false, false, false, false, false, false, false] rfl rfl (any_of HT_.out (by kernel_rfl)) (fun _ _ _ h => h) (Or.inl ⟨by rfl, ?_⟩) ?_ ?_
                rotate_left
                ·
                 intro w'
                 go_simp
                 with_reducible rfl
                rotate_left
                ·
                 simp only [Act.put, List.setIfInBounds_toArray, List.set_cons_zero, List.set_cons_succ, i64_w, i32_w]
                 rfl
                refine pure_ (i := 2) (N := some 66) (v := ?_) (a' := ?_) #[true, true, true, false, false, false, false, false, false, false, false, false, false, false, false, false, false, false] rfl rfl (any_of HT_.out (by kernel_rfl)) (fun _ _ _ h => h) (Or.inl ⟨by rfl, ?_⟩) ?_ ?_
                rotate_left
                ·
                 intro w'
                 go_simp
                 with_reducible rfl
                rotate_left
                ·
                 simp only [Act.put, List.setIfInBounds_toArray, List.set_cons_zero, List.set_cons_succ, i64_w, i32_w]
                 rfl
                refine pure_ (i := 3) (N := some 67) (v := ?_) (a' := ?_) #[true, true, true, true, false, false, false, false, false, false, false, false, false, false, false, false, false, false] rfl rfl (any_of HT_.out (by kernel_rfl)) (fun _ _ _ h => h) (Or.inl ⟨by rfl, ?_⟩) ?_ ?_
                rotate_left
                ·
                 intro w'
                 go_simp
                 with_reducible rfl
                rotate_left
                ·
                 simp only [Act.put, List.setIfInBounds_toArray, List.set_cons_zero, List.set_cons_succ, i64_w, i32_w]
                 rfl
                refine pure_ (i := 4) (N := some 68) (v := ?_) (a' := ?_) #[true, true, true, true, true, false, false, false, false, false, false, false, false, false, false, false, false, false] rfl rfl (any_of HT_.out (by kernel_rfl)) (fun _ _ _ h => h) (Or.inl ⟨by rfl, ?_⟩) ?_ ?_
                rotate_left
                ·
                 intro w'
                 go_simp
                 with_reducible rfl
                rotate_left
                ·
                 simp only [Act.put, List.setIfInBounds_toArray, List.set_cons_zero, List.set_cons_succ, i64_w, i32_w]
                 rfl
                refine pure_ (i := 8) (N := some 72) (v := ?_) (a' := ?_) #[true, true, true, true, true, false, false, false, true, false, false, false, false, false, false, false, false, false] rfl rfl (any_of HT_.out (by kernel_rfl)) (fun _ _ _ h => h) (Or.inl ⟨by rfl, ?_⟩) ?_ ?_
                rotate_left
                ·
                 intro w'
                 go_simp
                 with_reducible rfl
                rotate_left
                ·
                 simp only [Act.put, List.setIfInBounds_toArray, List.set_cons_zero, List.set_cons_succ, i64_w, i32_w]
                 rfl
                refine pure_ (i := 9) (N := some 73) (v := ?_) (a' := ?_) #[true, true, true, true, true, false, false, false, true, true, false, false, false, false, false, false, false, false] rfl rfl (any_of HT_.out (by kernel_rfl)) (fun _ _ _ h => h) (Or.inl ⟨by rfl, ?_⟩) ?_ ?_
                rotate_left
                ·
                 intro w'
                 go_simp
                 with_reducible rfl
                rotate_left
                ·
                 simp only [Act.put, List.setIfInBounds_toArray, List.set_cons_zero, List.set_cons_succ, i64_w, i32_w]
                 rfl
                refine pure_ (i := 10) (N := some 74) (v := ?_) (a' := ?_) #[true, true, true, true, true, false, false, false, true, true, true, false, false, false, false, false, false, false] rfl rfl (any_of HT_.out (by kernel_rfl)) (fun _ _ _ h => h) (Or.inl ⟨by rfl, ?_⟩) ?_ ?_
                rotate_left
                ·
                 intro w'
                 go_simp
                 with_reducible rfl
                rotate_left
                ·
                 simp only [Act.put, List.setIfInBounds_toArray, List.set_cons_zero, List.set_cons_succ, i64_w, i32_w]
                 rfl
                refine pure_ (i := 11) (N := some 75) (v := ?_) (a' := ?_) #[true, true, true, true, true, false, false, false, true, true, true, true, false, false, false, false, false, false] rfl rfl (any_of HT_.out (by kernel_rfl)) (fun _ _ _ h => h) (Or.inl ⟨by rfl, ?_⟩) ?_ ?_
                rotate_left
                ·
                 intro w'
                 go_simp
                 with_reducible rfl
                rotate_left
                ·
                 simp only [Act.put, List.setIfInBounds_toArray, List.set_cons_zero, List.set_cons_succ, i64_w, i32_w]
                 rfl
                refine pure_ (i := 12) (N := some 76) (v := ?_) (a' := ?_) #[true, true, true, true, true, false, false, false, true, true, true, true, true, false, false, false, false, false] rfl rfl (any_of HT_.out (by kernel_rfl)) (fun _ _ _ h => h) (Or.inl ⟨by rfl, ?_⟩) ?_ ?_
                rotate_left
                ·
                 intro w'
                 go_simp
                 with_reducible rfl
                rotate_left
                ·
                 simp only [Act.put, List.setIfInBounds_toArray, List.set_cons_zero, List.set_cons_succ, i64_w, i32_w]
                 rfl
                refine pure_ (i := 13) (N := some 77) (v := ?_) (a' := ?_) #[true, true, true, true, true, false, false, false, true, true, true, true, true, true, false, false, false, false] rfl rfl (any_of HT_.out (by kernel_rfl)) (fun _ _ _ h => h) (Or.inl ⟨by rfl, ?_⟩) ?_ ?_
                rotate_left
                ·
                 intro w'
                 go_simp
                 with_reducible rfl
                rotate_left
                ·
                 simp only [Act.put, List.setIfInBounds_toArray, List.set_cons_zero, List.set_cons_succ, i64_w, i32_w]
                 rfl
                refine take_ (i := 5) (N := some 69) (v := ?_) (a' := ?_) #[true, true, true, true, true, true, false, false, true, true, true, true, true, true, false, false, false, false] rfl rfl (take_ofW HT_.out HW_.out (by kernel_rfl)) (fun _ _ _ h => h) (Or.inl ⟨by rfl, ?_⟩) hHeld ?_ ?_
                rotate_left
                ·
                 rintro w' ⟨s0, s1⟩
                 go_simp
                 with_reducible rfl
                rotate_left
                ·
                 simp only [Act.put, List.setIfInBounds_toArray, List.set_cons_zero, List.set_cons_succ, i64_w, i32_w]
                 rfl
                refine pure_ (i := 6) (N := some 70) (v := ?_) (a' := ?_) #[true, true, true, true, true, true, true, false, true, true, true, true, true, true, false, false, false, false] rfl rfl (any_of HT_.out (by kernel_rfl)) (fun _ _ _ h => h) (Or.inl ⟨by rfl, ?_⟩) ?_ ?_
                rotate_left
                ·
                 intro w'
                 go_simp
                 with_reducible rfl
                rotate_left
                ·
                 simp only [Act.put, List.setIfInBounds_toArray, List.set_cons_zero, List.set_cons_succ, i64_w, i32_w]
                 rfl
                refine pure_ (i := 7) (N := some 71) (v := ?_) (a' := ?_) #[true, true, true, true, true, true, true, true, true, true, true, true, true, true, false, false, false, false] rfl rfl (any_of HT_.out (by kernel_rfl)) (fun _ _ _ h => h) (Or.inl ⟨by rfl, ?_⟩) ?_ ?_
                rotate_left
                ·
                 intro w'
                 go_simp
                 with_reducible rfl
                rotate_left
                ·
                 simp only [Act.put, List.setIfInBounds_toArray, List.set_cons_zero, List.set_cons_succ, i64_w, i32_w]
                 rfl
                refine take_ (i := 14) (N := some 78) (v := ?_) (a' := ?_) #[true, true, true, true, true, true, true, true, true, true, true, true, true, true, true, false, false, false] rfl rfl (take_ofW HT_.out HW_.out (by kernel_rfl)) (fun _ _ _ h => h) (Or.inl ⟨by rfl, ?_⟩) hHeld ?_ ?_
                rotate_left
                ·
                 rintro w' ⟨s0, s1⟩
                 go_simp
                 with_reducible rfl
                rotate_left
                ·
                 simp only [Act.put, List.setIfInBounds_toArray, List.set_cons_zero, List.set_cons_succ, i64_w, i32_w]
                 rfl
                refine pure_ (i := 15) (N := some 79) (v := ?_) (a' := ?_) #[true, true, true, true, true, true, true, true, true, true, true, true, true, true, true, true, false, false] rfl rfl (any_of HT_.out (by kernel_rfl)) (fun _ _ _ h => h) (Or.inl ⟨by rfl, ?_⟩) ?_ ?_
                rotate_left
                ·
                 intro w'
                 go_simp
                 with_reducible rfl
                rotate_left
                ·
                 simp only [Act.put, List.setIfInBounds_toArray, List.set_cons_zero, List.set_cons_succ, i64_w, i32_w]
                 rfl
                refine pure_ (i := 16) (N := some 80) (v := ?_) (a' := ?_) #[true, true, true, true, true, true, true, true, true, true, true, true, true, true, true, true, true, false] rfl rfl (any_of HT_.out (by kernel_rfl)) (fun _ _ _ h => h) (Or.inl ⟨by rfl, ?_⟩) ?_ ?_
                rotate_left
                ·
                 intro w'
                 go_simp
                 with_reducible rfl
                rotate_left
                ·
                 simp only [Act.put, List.setIfInBounds_toArray, List.set_cons_zero, List.set_cons_succ, i64_w, i32_w]
                 rfl
                refine pure_ (i := 17) (N := some 14) (v := ?_) (a' := ?_) #[true, true, true, true, true, true, true, true, true, true, true, true, true, true, true, true, true, true] rfl rfl (any_of HT_.out (by kernel_rfl)) (fun _ _ _ h => h) (Or.inl ⟨by rfl, ?_⟩) ?_ ?_
                rotate_left
                ·
                 intro w'
                 go_simp
                 with_reducible rfl
                rotate_left
                ·
                 simp only [Act.put, List.setIfInBounds_toArray, List.set_cons_zero, List.set_cons_succ, i64_w, i32_w]
                 rfl
                refine done_ (done_of HT_.out (by kernel_rfl)) ?_
                try go_wp2
                have n0_ := Aside0.mk (Kd.R_drew HO_8.out)
                have n1_ := Aside0.mk (Kd.R_drew HO_9.out)
                have n2_ := Aside0.mk (Kd.R_drew HO_10.out)
                have n3_ := Aside0.mk (below_drew1 HB.out)
                clear HO_8
                clear HO_9
                clear HO_10
                clear HB
                have HO_8 := n0_
                have HO_9 := n1_
                have HO_10 := n2_
                have HB := n3_
                clear n0_ n1_ n2_ n3_
                refine start_ (n := 8) (S := fun w' => True) (ds := []) #[false, false, false, false, false, false, false, false] (by kernel_rfl) rfl rfl trivial (fun hHeld => ?_); refine with_tabW bignat_divLong.tab11 bignat_divLong.bits11 (fun HT_ HW_ => ?_)
                generalize w31.drew = w33 at HO_8 HO_9 HO_10 HB hHeld ⊢
                refine pure_ (i := 0) (N := some 81) (v := ?_) (a' := ?_) #[true, false, false, false, false, false, false, false] rfl rfl (any_of HT_.out (by kernel_rfl)) (fun _ _ _ h => h) (Or.inl ⟨by rfl, ?_⟩) ?_ ?_
                rotate_left
                ·
                 intro w'
                 go_simp
                 with_reducible rfl
                rotate_left
                ·
                 simp only [Act.put, List.setIfInBounds_toArray, List.set_cons_zero, List.set_cons_succ, i64_w, i32_w]
                 rfl
                refine pure_ (i := 1) (N := some 82) (v := ?_) (a' := ?_) #[true, true, false, false, false, false, false, false] rfl rfl (any_of HT_.out (by kernel_rfl)) (fun _ _ _ h => h) (Or.inl ⟨by rfl, ?_⟩) ?_ ?_
                rotate_left
                ·
                 intro w'
                 go_simp
                 with_reducible rfl
                rotate_left
                ·
                 simp only [Act.put, List.setIfInBounds_toArray, List.set_cons_zero, List.set_cons_succ, i64_w, i32_w]
                 rfl
                refine pure_ (i := 2) (N := some 83) (v := ?_) (a' := ?_) #[true, true, true, false, false, false, false, false] rfl rfl (any_of HT_.out (by kernel_rfl)) (fun _ _ _ h => h) (Or.inl ⟨by rfl, ?_⟩) ?_ ?_
                rotate_left
                ·
                 intro w'
                 go_simp
                 with_reducible rfl
                rotate_left
                ·
                 simp only [Act.put, List.setIfInBounds_toArray, List.set_cons_zero, List.set_cons_succ, i64_w, i32_w]
                 rfl
                refine pure_ (i := 3) (N := some 84) (v := ?_) (a' := ?_) #[true, true, true, true, false, false, false, false] rfl rfl (any_of HT_.out (by kernel_rfl)) (fun _ _ _ h => h) (Or.inl ⟨by rfl, ?_⟩) ?_ ?_
                rotate_left
                ·
                 intro w'
                 go_simp
                 with_reducible rfl
                rotate_left
                ·
                 simp only [Act.put, List.setIfInBounds_toArray, List.set_cons_zero, List.set_cons_succ, i64_w, i32_w]
                 rfl
                refine pure_ (i := 4) (N := some 85) (v := ?_) (a' := ?_) #[true, true, true, true, true, false, false, false] rfl rfl (any_of HT_.out (by kernel_rfl)) (fun _ _ _ h => h) (Or.inl ⟨by rfl, ?_⟩) ?_ ?_
                rotate_left
                ·
                 intro w'
                 go_simp
                 with_reducible rfl
                rotate_left
                ·
                 simp only [Act.put, List.setIfInBounds_toArray, List.set_cons_zero, List.set_cons_succ, i64_w, i32_w]
                 rfl
                refine pure_ (i := 5) (N := some 86) (v := ?_) (a' := ?_) #[true, true, true, true, true, true, false, false] rfl rfl (any_of HT_.out (by kernel_rfl)) (fun _ _ _ h => h) (Or.inl ⟨by rfl, ?_⟩) ?_ ?_
                rotate_left
                ·
                 intro w'
                 go_simp
                 with_reducible rfl
                rotate_left
                ·
                 simp only [Act.put, List.setIfInBounds_toArray, List.set_cons_zero, List.set_cons_succ, i64_w, i32_w]
                 rfl
                refine pure_ (i := 6) (N := some 15) (v := ?_) (a' := ?_) #[true, true, true, true, true, true, true, false] rfl rfl (any_of HT_.out (by kernel_rfl)) (fun _ _ _ h => h) (Or.inl ⟨by rfl, ?_⟩) ?_ ?_
                rotate_left
                ·
                 intro w'
                 go_simp
                 with_reducible rfl
                rotate_left
                ·
                 simp only [Act.put, List.setIfInBounds_toArray, List.set_cons_zero, List.set_cons_succ, i64_w, i32_w]
                 rfl
                refine pure_ (i := 7) (N := some 16) (v := ?_) (a' := ?_) #[true, true, true, true, true, true, true, true] rfl rfl (any_of HT_.out (by kernel_rfl)) (fun _ _ _ h => h) (Or.inl ⟨by rfl, ?_⟩) ?_ ?_
                rotate_left
                ·
                 intro w'
                 go_simp
                 with_reducible rfl
                rotate_left
                ·
                 simp only [Act.put, List.setIfInBounds_toArray, List.set_cons_zero, List.set_cons_succ, i64_w, i32_w]
                 rfl
                refine done_ (done_of HT_.out (by kernel_rfl)) ?_
                go_upto_block 2 with (fail)
                go_cut [15] (fun v15 wc => ∃ (kq : Nat) (x15_29 : Int), v15 = .int .u64 x15_29 ∧ Aside0 (bignat_divLong.j3 kq (l1.length : Int) (IntKind.u64.wrap (t177)) x8_1 t181 x10_1 (IntKind.u64.wrap (rd t181 (ji3))) (IntKind.u64.wrap (rd t181 (ji13))) x13_1 x15_29 = some (r1, r2)) ∧ Aside0 (kq ≤ k1) ∧ Aside0 (Kd.R (Kd.int .u32) 37 wc w.heap.size (fun k_ => some k_ ≠ ((.slice (some ad187) t181.length co21) : Value).ownBlock ∧ some k_ ≠ (v185 : Value).ownBlock) (.slice (some ad189) x8_1.length co32) x8_1) ∧ Aside0 (Kd.R (Kd.int .u32) 37 wc w.heap.size (fun k_ => some k_ ≠ ((.slice (some ad189) x8_1.length co32) : Value).ownBlock ∧ some k_ ≠ (v185 : Value).ownBlock) (.slice (some ad187) t181.length co21) t181) ∧ Aside0 (Kd.R (Kd.int .u32) 37 wc w.heap.size (fun k_ => some k_ ≠ ((.slice (some ad189) x8_1.length co32) : Value).ownBlock ∧ some k_ ≠ ((.slice (some ad187) t181.length co21) : Value).ownBlock) v185 x10_1) ∧ Aside0 (Below w.heap.size w wc))
                case first =>
                 have H := HC30.out
                 clear HC30
                 have H' := Aside0.mk H
                 clear H
                 go_wp2
                 go_loopg [15, 16] k1 (fun kq v15 v16 w' => ∃ (x15_2 : Int) (x16_2 : Int), v15 = .int .u64 x15_2 ∧ v16 = .int .u64 x16_2 ∧ Aside0 (bignat_divLong.l1 kq (l1.length : Int) (IntKind.u64.wrap (t177)) x8_1 t181 x10_1 (IntKind.u64.wrap (rd t181 (ji3))) (IntKind.u64.wrap (rd t181 (ji13))) x13_1 x15_2 x16_2 = some (r1, r2)) ∧ Aside0 (kq ≤ k1) ∧ Aside0 (Kd.R (Kd.int .u32) 37 w' w.heap.size (fun k_ => some k_ ≠ ((.slice (some ad187) t181.length co21) : Value).ownBlock ∧ some k_ ≠ (v185 : Value).ownBlock) (.slice (some ad189) x8_1.length co32) x8_1) ∧ Aside0 (Kd.R (Kd.int .u32) 37 w' w.heap.size (fun k_ => some k_ ≠ ((.slice (some ad189) x8_1.length co32) : Value).ownBlock ∧ some k_ ≠ (v185 : Value).ownBlock) (.slice (some ad187) t181.length co21) t181) ∧ Aside0 (Kd.R (Kd.int .u32) 37 w' w.heap.size (fun k_ => some k_ ≠ ((.slice (some ad189) x8_1.length co32) : Value).ownBlock ∧ some k_ ≠ ((.slice (some ad187) t181.length co21) : Value).ownBlock) v185 x10_1) ∧ Aside0 (Below w.heap.size w w'))
                 case atStart => exact ⟨(IntKind.u64.wrap (Int.tdiv (Go.bits .or .u64 (IntKind.u64.wrap ((IntKind.u64.wrap (rd x8_1 (ji23))) * 4294967296)) (IntKind.u64.wrap (rd x8_1 (ji26)))) (IntKind.u64.wrap (rd t181 (ji3))))), (Int.tmod (Go.bits .or .u64 (IntKind.u64.wrap ((IntKind.u64.wrap (rd x8_1 (ji23))) * 4294967296)) (IntKind.u64.wrap (rd x8_1 (ji26)))) (IntKind.u64.wrap (rd t181 (ji3)))), (by first | rfl | (simp; done) | (simp only [← hji3, ← hji23, ← hji26] <;> (first | rfl | simp)) | (simp [*]; done)), (by first | rfl | (simp; done) | (simp only [← hji3, ← hji23, ← hji26] <;> (first | rfl | simp)) | (simp [*]; done)), H', ⟨Nat.le_refl _⟩, ⟨by (with_reducible repeat (first | apply Kd.R_alloc | apply Kd.R_drewN | apply Kd.R_drew)); exact HO_8.out⟩, ⟨by (with_reducible repeat (first | apply Kd.R_alloc | apply Kd.R_drewN | apply Kd.R_drew)); exact HO_9.out⟩, ⟨by (with_reducible repeat (first | apply Kd.R_alloc | apply Kd.R_drewN | apply Kd.R_drew)); exact HO_10.out⟩, ⟨by repeat (first | (with_reducible first | exact HB.out | apply below_alloc | apply pw_below_drewN | apply below_drew1) | exact HB.out)⟩⟩
                 case round =>
                  clear H'
                  try clear c1
                  try clear p1
                  try clear q1
                  try clear hx1
                  try clear c2
                  try clear p2
                  try clear c4
                  try clear c4b0
                  try clear c5
                  try clear c5b0
                  try clear p6
                  try clear c9
                  try clear c10
                  try clear c10b0
                  try clear c10b1
                  try clear c11
                  try clear c11b0
                  try clear c11b1
                  try clear c12
                  try clear c12b0
                  try clear c14
                  try clear c14b0
                  try clear c15
                  try clear c15b0
                  try clear p17
                  try clear q17
                  try clear hx17
                  try clear p18
                  try clear q18
                  try clear hx18
                  try clear p19
                  try clear q19
                  try clear hx19
                  try clear c22
                  try clear c22b0
                  try clear c24
                  try clear c24b0
                  try clear c25
                  try clear c25b0
                  try clear c27
                  try clear c27b0
                  try clear c28
                  try clear c28b0
                  try clear c29
                  try clear c29b0
                  try clear c29b1
                  try clear hx176_0
                  try clear hx187_0
                  try clear hx188_0
                  try clear hx189_0
                  try clear hx190_0
                  try clear p1
                  try clear p17
                  try clear p176
                  try clear p18
                  try clear p187
                  try clear p188
                  try clear p189
                  try clear p190
                  try clear p2
                  try clear p6
                  try clear q1
                  try clear q17
                  try clear q176
                  try clear q18
                  try clear q187
                  try clear q188
                  try clear q189
                  try clear q190
                  obtain ⟨x15_2, x16_2, rfl, rfl, HA, HK2, HO_8, HO_9, HO_10, HB⟩ := hrel
                  cases gk with
                  | zero => exact absurd HA.out (by simp [bignat_divLong.l1])
                  | succ k2 =>
                   have H := HA.out
                   clear HA
                   simp only [bignat_divLong.l1] at H
                   have HC34 := Aside0.mk H
                   clear H
                   go_upto_region 12 with (fail)
                   go_cut [106] (fun v106 wc => ∃ (kq : Nat) (x106_33 : Bool), v106 = .bool x106_33 ∧ Aside0 (bignat_divLong.j2 kq (l1.length : Int) (IntKind.u64.wrap (t177)) x8_1 t181 x10_1 (IntKind.u64.wrap (rd t181 (ji3))) (IntKind.u64.wrap (rd t181 (ji13))) x13_1 x15_2 x16_2 x106_33 = some (r1, r2)) ∧ Aside0 (kq ≤ k2) ∧ Aside0 (Kd.R (Kd.int .u32) 37 wc w.heap.size (fun k_ => some k_ ≠ ((.slice (some ad187) t181.length co21) : Value).ownBlock ∧ some k_ ≠ (v185 : Value).ownBlock) (.slice (some ad189) x8_1.length co32) x8_1) ∧ Aside0 (Kd.R (Kd.int .u32) 37 wc w.heap.size (fun k_ => some k_ ≠ ((.slice (some ad189) x8_1.length co32) : Value).ownBlock ∧ some k_ ≠ (v185 : Value).ownBlock) (.slice (some ad187) t181.length co21) t181) ∧ Aside0 (Kd.R (Kd.int .u32) 37 wc w.heap.size (fun k_ => some k_ ≠ ((.slice (some ad189) x8_1.length co32) : Value).ownBlock ∧ some k_ ≠ ((.slice (some ad187) t181.length co21) : Value).ownBlock) v185 x10_1) ∧ Aside0 (Below w.heap.size w wc))
                   case first =>
                    have H := HC34.out
                    clear HC34
                    by_cases c35 : (x15_2 / 4294967296) = 0
                    ·
                     rw [if_pos c35] at H
                     have c35b0 : ((x15_2 / 4294967296) == 0) = true := beq_iff_eq.mpr c35
                     have c35b1 : ((x15_2 / 4294967296) != 0) = false := bne_eq_false_iff_eq.mpr c35
                     clear c35
                     (first | rw [c35b0] | rw [c35b1] | (simp only [i64_w, i32_w]; rw [c35b0]) | skip)
                     obtain ⟨ji36, hji36⟩ : ∃ j_ : Int, (wrap64 ((wrap64 (x13_1 + (l1.length : Int))) - 2)) = j_ := ⟨_, rfl⟩
                     replace H : (if 0 ≤ (ji36) then (if (ji36) < (x8_1.length : Int) then (bignat_divLong.j2 k2 (l1.length : Int) (IntKind.u64.wrap (t177)) x8_1 t181 x10_1 (IntKind.u64.wrap (rd t181 (ji3))) (IntKind.u64.wrap (rd t181 (ji13))) x13_1 x15_2 x16_2 (decide ((IntKind.u64.wrap (x15_2 * (IntKind.u64.wrap (rd t181 (ji13))))) > (Go.bits .or .u64 (IntKind.u64.wrap (x16_2 * 4294967296)) (IntKind.u64.wrap (rd x8_1 (ji36))))))) else (none)) else (none)) = some (r1, r2) := by first | (rw [hji36] at H; exact H) | (simp only [hji36] at H ⊢; exact H)
                     have hji36w : (IntKind.i64.wrap ((wrap64 (x13_1 + (l1.length : Int))) - 2)) = ji36 := (i64_w _).trans hji36
                     (try (have hji36r := hji36; simp only [hji3, hji9, hji13, hji23, hji26] at hji36r))
                     (try (have hji36wr := hji36w; simp only [hji3, hji9, hji13, hji23, hji26] at hji36wr))
                     by_cases c37 : 0 ≤ (ji36)
                     ·
                      rw [if_pos c37] at H
                      have c37b0 : decide (0 ≤ (ji36)) = true := decide_eq_true c37
                      clear c37
                      by_cases c38 : (ji36) < (x8_1.length : Int)
                      ·
                       rw [if_pos c38] at H
                       have c38b0 : decide ((ji36) < (x8_1.length : Int)) = true := decide_eq_true c38
                       clear c38
                       have H' := Aside0.mk H
                       clear H
                       have p191 : 0 ≤ ((ji36) : Int) := of_decide_eq_true (by first | (with_reducible assumption) | assumption)
                       have q191 : (ji36) < (x8_1.length : Int) := of_decide_eq_true (by first | (with_reducible assumption) | assumption)
                       obtain ⟨ad191, e191, hx191_0⟩ := Kd.at_int (Kd.R_reads' HO_8.out).2.2 (ji36) p191 q191
                       obtain rfl : ad189 = ad191 := (by injection e191)
                       replace p191 := eq_true p191
                       replace q191 := eq_true q191
                       go_wp2
                       go_meet
                       case rel => exact ⟨_, (decide ((IntKind.u64.wrap (x15_2 * (IntKind.u64.wrap (rd t181 (ji13))))) > (Go.bits .or .u64 (IntKind.u64.wrap (x16_2 * 4294967296)) (IntKind.u64.wrap (rd x8_1 (ji36)))))), (by first | rfl | (simp; done) | (simp only [← hji13, ← hji36] <;> (first | rfl | simp)) | (simp [*]; done)), H', ⟨by have := HK1.out; have := HK2.out; first | omega | exact Nat.le_refl _⟩, ⟨by (with_reducible repeat (first | apply Kd.R_alloc | apply Kd.R_drewN | apply Kd.R_drew)); exact HO_8.out⟩, ⟨by (with_reducible repeat (first | apply Kd.R_alloc | apply Kd.R_drewN | apply Kd.R_drew)); exact HO_9.out⟩, ⟨by (with_reducible repeat (first | apply Kd.R_alloc | apply Kd.R_drewN | apply Kd.R_drew)); exact HO_10.out⟩, ⟨by repeat (first | (with_reducible first | exact HB.out | apply below_alloc | apply pw_below_drewN | apply below_drew1) | exact HB.out)⟩⟩
                      ·
                       rw [if_neg c38] at H
                       exact absurd H (by simp)
                     ·
                      rw [if_neg c37] at H
                      exact absurd H (by simp)
                    ·
                     rw [if_neg c35] at H
                     have c35b0 : ((x15_2 / 4294967296) == 0) = false := beq_eq_false_iff_ne.mpr c35
                     have c35b1 : ((x15_2 / 4294967296) != 0) = true := bne_iff_ne.mpr c35
                     (first | rw [c35b0] | rw [c35b1] | (simp only [i64_w, i32_w]; rw [c35b0]) | skip)
                     have H' := Aside0.mk H
                     clear H
                     go_wp2
                     go_meet
                     case rel => exact ⟨_, (true), (by first | rfl | (simp; done) | (simp [*]; done)), H', ⟨by have := HK1.out; have := HK2.out; first | omega | exact Nat.le_refl _⟩, ⟨by (with_reducible repeat (first | apply Kd.R_alloc | apply Kd.R_drewN | apply Kd.R_drew)); exact HO_8.out⟩, ⟨by (with_reducible repeat (first | apply Kd.R_alloc | apply Kd.R_drewN | apply Kd.R_drew)); exact HO_9.out⟩, ⟨by (with_reducible repeat (first | apply Kd.R_alloc | apply Kd.R_drewN | apply Kd.R_drew)); exact HO_10.out⟩, ⟨by repeat (first | (with_reducible first | exact HB.out | apply below_alloc | apply pw_below_drewN | apply below_drew1) | exact HB.out)⟩⟩
                   case rest =>
                    clear HC34
                    try clear c1
                    try clear p1
                    try clear q1
                    try clear hx1
                    try clear c2
                    try clear p2
                    try clear c3
                    try clear c4
                    try clear c4b0
                    try clear c5
                    try clear c5b0
                    try clear p6
                    try clear c9
                    try clear c10
                    try clear c10b0
                    try clear c10b1
                    try clear c11
                    try clear c11b0
                    try clear c11b1
                    try clear c12
                    try clear c12b0
                    try clear c14
                    try clear c14b0
                    try clear c15
                    try clear c15b0
                    try clear p17
                    try clear q17
                    try clear hx17
                    try clear p18
                    try clear q18
                    try clear hx18
                    try clear p19
                    try clear q19
                    try clear hx19
                    try clear c22
                    try clear c22b0
                    try clear c24
                    try clear c24b0
                    try clear c25
                    try clear c25b0
                    try clear c27
                    try clear c27b0
                    try clear c28
                    try clear c28b0
                    try clear c29
                    try clear c29b0
                    try clear c29b1
                    try clear c35
                    try clear c35b0
                    try clear c35b1
                    try clear c37
                    try clear c37b0
                    try clear c38
                    try clear c38b0
                    try clear hx176_0
                    try clear hx187_0
                    try clear hx188_0
                    try clear hx189_0
                    try clear hx190_0
                    try clear hx191_0
                    try clear p1
                    try clear p17
                    try clear p176
                    try clear p18
                    try clear p187
                    try clear p188
                    try clear p189
                    try clear p19
                    try clear p190
                    try clear p191
                    try clear p2
                    try clear p6
                    try clear q1
                    try clear q17
                    try clear q176
                    try clear q18
                    try clear q187
                    try clear q188
                    try clear q189
                    try clear q19
                    try clear q190
                    try clear q191
                    obtain ⟨kq, x106_33, rfl, HA, HJ33, HO_8, HO_9, HO_10, HB⟩ := hcut
                    cases kq with
                    | zero => exact absurd HA.out (by simp [bignat_divLong.j2])
                    | succ kj33 =>
                     have H := HA.out
                     clear HA
                     simp only [bignat_divLong.j2] at H
                     by_cases c39 : x106_33 = true
                     ·
                      subst c39
                      have H1 : (if ((IntKind.u64.wrap (x16_2 + (IntKind.u64.wrap (rd t181 (ji3))))) / 4294967296) = 0 then (bignat_divLong.l1 kj33 (l1.length : Int) (IntKind.u64.wrap (t177)) x8_1 t181 x10_1 (IntKind.u64.wrap (rd t181 (ji3))) (IntKind.u64.wrap (rd t181 (ji13))) x13_1 (IntKind.u64.wrap (x15_2 - 1)) (IntKind.u64.wrap (x16_2 + (IntKind.u64.wrap (rd t181 (ji3)))))) else (bignat_divLong.j3 kj33 (l1.length : Int) (IntKind.u64.wrap (t177)) x8_1 t181 x10_1 (IntKind.u64.wrap (rd t181 (ji3))) (IntKind.u64.wrap (rd t181 (ji13))) x13_1 (IntKind.u64.wrap (x15_2 - 1)))) = some (r1, r2) := by rw [if_pos rfl] at H; exact H
                      clear H
                      have H := H1
                      clear H1
                      by_cases c40 : ((IntKind.u64.wrap (x16_2 + (IntKind.u64.wrap (rd t181 (ji3))))) / 4294967296) = 0
                      ·
                       rw [if_pos c40] at H
                       have c40b0 : (((IntKind.u64.wrap (x16_2 + (IntKind.u64.wrap (rd t181 (ji3))))) / 4294967296) == 0) = true := beq_iff_eq.mpr c40
                       have c40b1 : (((IntKind.u64.wrap (x16_2 + (IntKind.u64.wrap (rd t181 (ji3))))) / 4294967296) != 0) = false := bne_eq_false_iff_eq.mpr c40
                       clear c40
                       have H' := Aside0.mk H
                       clear H
                       go_wp2
                       go_roundg kj33
                       case measure => have := HK1.out; have := HK2.out; have := HJ33.out; omega
                       case rel => exact ⟨(IntKind.u64.wrap (x15_2 - 1)), (IntKind.u64.wrap (x16_2 + (IntKind.u64.wrap (rd t181 (ji3))))), (by first | rfl | (simp; done) | (simp [*]; done)), (by first | rfl | (simp; done) | (simp only [← hji3] <;> (first | rfl | simp)) | (simp [*]; done)), H', ⟨by have := HK1.out; have := HK2.out; have := HJ33.out; omega⟩, ⟨by (with_reducible repeat (first | apply Kd.R_alloc | apply Kd.R_drewN | apply Kd.R_drew)); exact HO_8.out⟩, ⟨by (with_reducible repeat (first | apply Kd.R_alloc | apply Kd.R_drewN | apply Kd.R_drew)); exact HO_9.out⟩, ⟨by (with_reducible repeat (first | apply Kd.R_alloc | apply Kd.R_drewN | apply Kd.R_drew)); exact HO_10.out⟩, ⟨by repeat (first | (with_reducible first | exact HB.out | apply below_alloc | apply pw_below_drewN | apply below_drew1) | exact HB.out)⟩⟩
                      ·
                       rw [if_neg c40] at H
                       have c40b0 : (((IntKind.u64.wrap (x16_2 + (IntKind.u64.wrap (rd t181 (ji3))))) / 4294967296) == 0) = false := beq_eq_false_iff_ne.mpr c40
                       have c40b1 : (((IntKind.u64.wrap (x16_2 + (IntKind.u64.wrap (rd t181 (ji3))))) / 4294967296) != 0) = true := bne_iff_ne.mpr c40
                       have H' := Aside0.mk H
                       clear H
                       go_wp2
                       go_meet
                       case rel => exact ⟨_, (IntKind.u64.wrap (x15_2 - 1)), (by first | rfl | (simp; done) | (simp [*]; done)), H', ⟨by have := HK1.out; have := HK2.out; have := HJ33.out; first | omega | exact Nat.le_refl _⟩, ⟨by (with_reducible repeat (first | apply Kd.R_alloc | apply Kd.R_drewN | apply Kd.R_drew)); exact HO_8.out⟩, ⟨by (with_reducible repeat (first | apply Kd.R_alloc | apply Kd.R_drewN | apply Kd.R_drew)); exact HO_9.out⟩, ⟨by (with_reducible repeat (first | apply Kd.R_alloc | apply Kd.R_drewN | apply Kd.R_drew)); exact HO_10.out⟩, ⟨by repeat (first | (with_reducible first | exact HB.out | apply below_alloc | apply pw_below_drewN | apply below_drew1) | exact HB.out)⟩⟩
                     ·
                      replace c39 := Bool.eq_false_iff.mpr c39
                      subst c39
                      have H1 : (bignat_divLong.j3 kj33 (l1.length : Int) (IntKind.u64.wrap (t177)) x8_1 t181 x10_1 (IntKind.u64.wrap (rd t181 (ji3))) (IntKind.u64.wrap (rd t181 (ji13))) x13_1 x15_2) = some (r1, r2) := by rw [if_neg (show ¬ (false = true) by decide)] at H; exact H
                      clear H
                      have H := H1
                      clear H1
                      have H' := Aside0.mk H
                      clear H
                      go_wp2
                      go_meet
                      case rel => exact ⟨_, (x15_2), (by first | rfl | (simp; done) | (simp [*]; done)), H', ⟨by have := HK1.out; have := HK2.out; have := HJ33.out; first | omega | exact Nat.le_refl _⟩, ⟨by (with_reducible repeat (first | apply Kd.R_alloc | apply Kd.R_drewN | apply Kd.R_drew)); exact HO_8.out⟩, ⟨by (with_reducible repeat (first | apply Kd.R_alloc | apply Kd.R_drewN | apply Kd.R_drew)); exact HO_9.out⟩, ⟨by (with_reducible repeat (first | apply Kd.R_alloc | apply Kd.R_drewN | apply Kd.R_drew)); exact HO_10.out⟩, ⟨by repeat (first | (with_reducible first | exact HB.out | apply below_alloc | apply pw_below_drewN | apply below_drew1) | exact HB.out)⟩⟩
                case rest =>
                 clear HC30
                 try clear c1
                 try clear p1
                 try clear q1
                 try clear hx1
                 try clear c2
                 try clear p2
                 try clear c3
                 try clear c4
                 try clear c4b0
                 try clear c5
                 try clear c5b0
                 try clear p6
                 try clear c9
                 try clear c10
                 try clear c10b0
                 try clear c10b1
                 try clear c11
                 try clear c11b0
                 try clear c11b1
                 try clear c12
                 try clear c12b0
                 try clear c14
                 try clear c14b0
                 try clear c15
                 try clear c15b0
                 try clear p17
                 try clear q17
                 try clear hx17
                 try clear p18
                 try clear q18
                 try clear hx18
                 try clear p19
                 try clear q19
                 try clear hx19
                 try clear c22
                 try clear c22b0
                 try clear c24
                 try clear c24b0
                 try clear c25
                 try clear c25b0
                 try clear c27
                 try clear c27b0
                 try clear c28
                 try clear c28b0
                 try clear c29
                 try clear c29b0
                 try clear c29b1
                 try clear c35
                 try clear c35b0
                 try clear c35b1
                 try clear c37
                 try clear c37b0
                 try clear c38
                 try clear c38b0
                 try clear c39
                 try clear c40
                 try clear c40b0
                 try clear c40b1
                 try clear hx176_0
                 try clear hx187_0
                 try clear hx188_0
                 try clear hx189_0
                 try clear hx190_0
                 try clear hx191_0
                 try clear p1
                 try clear p17
                 try clear p176
                 try clear p18
                 try clear p187
                 try clear p188
                 try clear p189
                 try clear p19
                 try clear p190
                 try clear p191
                 try clear p2
                 try clear p6
                 try clear q1
                 try clear q17
                 try clear q176
                 try clear q18
                 try clear q187
                 try clear q188
                 try clear q189
                 try clear q19
                 try clear q190
                 try clear q191
                 obtain ⟨kq, x15_29, rfl, HA, HJ29, HO_8, HO_9, HO_10, HB⟩ := hcut
                 cases kq with
                 | zero => exact absurd HA.out (by simp [bignat_divLong.j3])
                 | succ kj29 =>
                  have H := HA.out
                  clear HA
                  try clear hji23wr
                  try clear hji23r
                  try clear hji23w
                  try clear hji23
                  try clear hji26wr
                  try clear hji26r
                  try clear hji26w
                  try clear hji26
                  try clear hji36wr
                  try clear hji36r
                  try clear hji36w
                  try clear hji36
                  simp only [bignat_divLong.j3] at H
                  by_cases c41 : 0 ≤ x13_1
                  ·
                   rw [if_pos c41] at H
                   have c41b0 := eq_true c41
                   have c41b1 : decide (0 ≤ x13_1) = true := decide_eq_true c41
                   clear c41
                   by_cases c42 : x13_1 ≤ (wrap64 ((wrap64 (x13_1 + (l1.length : Int))) + 1))
                   ·
                    rw [if_pos c42] at H
                    have c42b0 := eq_true c42
                    have c42b1 : decide (x13_1 ≤ (wrap64 ((wrap64 (x13_1 + (l1.length : Int))) + 1))) = true := decide_eq_true c42
                    by_cases c43 : (wrap64 ((wrap64 (x13_1 + (l1.length : Int))) + 1)) ≤ (x8_1.length : Int)
                    ·
                     rw [if_pos c43] at H
                     have c43b0 := eq_true c43
                     have c43b1 : decide ((wrap64 ((wrap64 (x13_1 + (l1.length : Int))) + 1)) ≤ (x8_1.length : Int)) = true := decide_eq_true c43
                     obtain ⟨y192, hy192⟩ : ∃ y_ : List Int, y_ = ((x8_1.take ((wrap64 ((wrap64 (x13_1 + (l1.length : Int))) + 1)) : Int).toNat).drop (x13_1 : Int).toNat) := ⟨_, rfl⟩
                     replace H : ((bignat_subtractScaled.fp kj29 x8_1 x13_1 (wrap64 ((wrap64 (x13_1 + (l1.length : Int))) + 1)) t181 x15_29).bind fun bt196 => (if bt196.1 = true then ((bignat_addBack.fp kj29 bt196.2 x13_1 (wrap64 ((wrap64 (x13_1 + (l1.length : Int))) + 1)) t181).bind fun t202 => (if x13_1 < (x10_1.length : Int) then (bignat_divLong.l0 kj29 (l1.length : Int) (IntKind.u64.wrap (t177)) t202 t181 (x10_1.set (x13_1 : Int).toNat ((IntKind.u64.wrap (x15_29 - 1)) % 4294967296)) (IntKind.u64.wrap (rd t181 (ji3))) (IntKind.u64.wrap (rd t181 (ji13))) (wrap64 (x13_1 - 1))) else (none))) else (if x13_1 < (x10_1.length : Int) then (bignat_divLong.l0 kj29 (l1.length : Int) (IntKind.u64.wrap (t177)) bt196.2 t181 (x10_1.set (x13_1 : Int).toNat ((x15_29) % 4294967296)) (IntKind.u64.wrap (rd t181 (ji3))) (IntKind.u64.wrap (rd t181 (ji13))) (wrap64 (x13_1 - 1))) else (none)))) = some (r1, r2) := by first | (rw [hy192]; with_reducible exact H) | (have H2_ := (Option.bind_some _ _).symm.trans H; rw [hy192]; with_reducible exact H2_) | (have H2_ := (Option.bind_some _ _).symm.trans H; with_reducible exact H2_) | with_reducible exact H | (rw [hy192]; exact H) | exact H
                     have Ny192 := Aside0.mk hy192
                     clear hy192
                     replace H := Option.bind_eq_some_iff.mp H
                     obtain ⟨⟨t196, t197⟩, A440, H⟩ := H
                     replace H : (if t196 = true then ((bignat_addBack.fp kj29 t197 x13_1 (wrap64 ((wrap64 (x13_1 + (l1.length : Int))) + 1)) t181).bind fun t202 => (if x13_1 < (x10_1.length : Int) then (bignat_divLong.l0 kj29 (l1.length : Int) (IntKind.u64.wrap (t177)) t202 t181 (x10_1.set (x13_1 : Int).toNat ((IntKind.u64.wrap (x15_29 - 1)) % 4294967296)) (IntKind.u64.wrap (rd t181 (ji3))) (IntKind.u64.wrap (rd t181 (ji13))) (wrap64 (x13_1 - 1))) else (none))) else (if x13_1 < (x10_1.length : Int) then (bignat_divLong.l0 kj29 (l1.length : Int) (IntKind.u64.wrap (t177)) t197 t181 (x10_1.set (x13_1 : Int).toNat ((x15_29) % 4294967296)) (IntKind.u64.wrap (rd t181 (ji3))) (IntKind.u64.wrap (rd t181 (ji13))) (wrap64 (x13_1 - 1))) else (none))) = some (r1, r2) := H
                     have A44 := Aside0.mk A440
                     clear A440
                     by_cases c45 : t196 = true
                     ·
                      subst c45
                      have H1 : ((bignat_addBack.fp kj29 t197 x13_1 (wrap64 ((wrap64 (x13_1 + (l1.length : Int))) + 1)) t181).bind fun t202 => (if x13_1 < (x10_1.length : Int) then (bignat_divLong.l0 kj29 (l1.length : Int) (IntKind.u64.wrap (t177)) t202 t181 (x10_1.set (x13_1 : Int).toNat ((IntKind.u64.wrap (x15_29 - 1)) % 4294967296)) (IntKind.u64.wrap (rd t181 (ji3))) (IntKind.u64.wrap (rd t181 (ji13))) (wrap64 (x13_1 - 1))) else (none))) = some (r1, r2) := by rw [if_pos rfl] at H; exact H
                      clear H
                      have H := H1
                      clear H1
                      have c46b0 := eq_true (of_decide_eq_true (by first | (with_reducible assumption) | assumption) : 0 ≤ x13_1)
                      have c47b0 := eq_true (of_decide_eq_true (by first | (with_reducible assumption) | assumption) : x13_1 ≤ (wrap64 ((wrap64 (x13_1 + (l1.length : Int))) + 1)))
                      have c48b0 := eq_true (of_decide_eq_true (by first | (with_reducible assumption) | assumption) : (wrap64 ((wrap64 (x13_1 + (l1.length : Int))) + 1)) ≤ (x8_1.length : Int))
                      obtain ⟨y198, hy198⟩ : ∃ y_ : List Int, y_ = ((t197.take ((wrap64 ((wrap64 (x13_1 + (l1.length : Int))) + 1)) : Int).toNat).drop (x13_1 : Int).toNat) := ⟨_, rfl⟩
                      replace H : ((bignat_addBack.fp kj29 t197 x13_1 (wrap64 ((wrap64 (x13_1 + (l1.length : Int))) + 1)) t181).bind fun t202 => (if x13_1 < (x10_1.length : Int) then (bignat_divLong.l0 kj29 (l1.length : Int) (IntKind.u64.wrap (t177)) t202 t181 (x10_1.set (x13_1 : Int).toNat ((IntKind.u64.wrap (x15_29 - 1)) % 4294967296)) (IntKind.u64.wrap (rd t181 (ji3))) (IntKind.u64.wrap (rd t181 (ji13))) (wrap64 (x13_1 - 1))) else (none))) = some (r1, r2) := by first | (rw [hy198]; with_reducible exact H) | (have H2_ := (Option.bind_some _ _).symm.trans H; rw [hy198]; with_reducible exact H2_) | (have H2_ := (Option.bind_some _ _).symm.trans H; with_reducible exact H2_) | with_reducible exact H | (rw [hy198]; exact H) | exact H
                      have Ny198 := Aside0.mk hy198
                      clear hy198
                      replace H := Option.bind_eq_some_iff.mp H
                      obtain ⟨t202, A490, H⟩ := H
                      replace H : (if x13_1 < (x10_1.length : Int) then (bignat_divLong.l0 kj29 (l1.length : Int) (IntKind.u64.wrap (t177)) t202 t181 (x10_1.set (x13_1 : Int).toNat ((IntKind.u64.wrap (x15_29 - 1)) % 4294967296)) (IntKind.u64.wrap (rd t181 (ji3))) (IntKind.u64.wrap (rd t181 (ji13))) (wrap64 (x13_1 - 1))) else (none)) = some (r1, r2) := H
                      have A49 := Aside0.mk A490
                      clear A490
                      by_cases c50 : x13_1 < (x10_1.length : Int)
                      ·
                       rw [if_pos c50] at H
                       have c50b0 : decide (x13_1 < (x10_1.length : Int)) = true := decide_eq_true c50
                       clear c50
                       obtain ⟨y203, hy203⟩ : ∃ y_ : List Int, y_ = (x10_1.set (x13_1 : Int).toNat ((IntKind.u64.wrap (x15_29 - 1)) % 4294967296)) := ⟨_, rfl⟩
                       replace H : (bignat_divLong.l0 kj29 (l1.length : Int) (IntKind.u64.wrap (t177)) t202 t181 y203 (IntKind.u64.wrap (rd t181 (ji3))) (IntKind.u64.wrap (rd t181 (ji13))) (wrap64 (x13_1 - 1))) = some (r1, r2) := by first | (rw [hy203]; with_reducible exact H) | (have H2_ := (Option.bind_some _ _).symm.trans H; rw [hy203]; with_reducible exact H2_) | (have H2_ := (Option.bind_some _ _).symm.trans H; with_reducible exact H2_) | with_reducible exact H | (rw [hy203]; exact H) | exact H
                       have Ny203 := Aside0.mk hy203
                       clear hy203
                       have H' := Aside0.mk H
                       clear H
                       have q52 : ((wrap64 ((wrap64 (x13_1 + (l1.length : Int))) + 1)) : Int) ≤ ((x8_1.length : Int) : Int) := of_decide_eq_true (by first | (with_reducible assumption) | assumption)
                       obtain ⟨i052, hi052, _, hsz52, _⟩ := info_parts info37
                       have hroom52 : x8_1.length ≤ co32 := (Kd.R_reads' HO_8.out).2.1
                       have hC52 : Kd.C (Kd.int .u32) _ (some ad189) x8_1.length x8_1 := (Kd.R_reads' HO_8.out).2.2
                       have ql52 : (x13_1 : Int) ≤ ((wrap64 ((wrap64 (x13_1 + (l1.length : Int))) + 1)) : Int) := of_decide_eq_true (by first | (with_reducible assumption) | assumption)
                       have q052 : (0 : Int) ≤ (x13_1 : Int) := of_decide_eq_true (by first | (with_reducible assumption) | assumption)
                       have hcut52 := cut_mid (P := Tryd.prog) 23 37 .i64 .i64 Tryd.underlying23 hi052 1 hsz52 (some ad189) x8_1.length co32 x13_1 (wrap64 ((wrap64 (x13_1 + (l1.length : Int))) + 1)) q052 ql52 q52 hroom52
                       have hr52 := Kd.C_mid (lo := (x13_1 : Int).toNat) (hi := ((wrap64 ((wrap64 (x13_1 + (l1.length : Int))) + 1)) : Int).toNat) (c := co32) hC52 (by omega) (by omega) hroom52
                       obtain ⟨A52, hA52⟩ : ∃ A1, A1 = (if co32 = (x13_1 : Int).toNat then (some ad189) else ((some ad189) : Option Addr).map (·.add ((x13_1 : Int).toNat * 1))) := ⟨_, rfl⟩
                       obtain ⟨c52, hc52⟩ : ∃ c1, c1 = co32 - (x13_1 : Int).toNat := ⟨_, rfl⟩
                       have hy52 : y192.length = ((wrap64 ((wrap64 (x13_1 + (l1.length : Int))) + 1)) : Int).toNat - (x13_1 : Int).toNat := (by rw [Ny192.out, List.length_drop, List.length_take] <;> omega)
                       rw [show ((x8_1).take ((wrap64 ((wrap64 (x13_1 + (l1.length : Int))) + 1)) : Int).toNat).drop (x13_1 : Int).toNat = y192 from Ny192.out.symm] at hr52
                       replace hr52 : Kd.C (Kd.int .u32) _ A52 y192.length y192 := (by rw [hA52]; exact hr52)
                       rw [← hy52, ← hA52, ← hc52] at hcut52
                       have HR195 := Aside0.mk hr52
                       have HC195 := Aside0.mk (show y192.length ≤ c52 from by rw [hy52, hc52]; exact Nat.sub_le_sub_right (Nat.le_trans (by omega) hroom52) _)
                       clear hr52 hC52 hroom52 hi052 hsz52 hc52
                       have KY52 := Aside0.mk hy52
                       have KA52 := Aside0.mk hA52
                       clear hy52 hA52
                       have KL52 := Aside0.mk (show ((wrap64 ((wrap64 (x13_1 + (l1.length : Int))) + 1)) : Int).toNat ≤ x8_1.length from by omega)
                       have KM52 := Aside0.mk (show (x13_1 : Int).toNat ≤ ((wrap64 ((wrap64 (x13_1 + (l1.length : Int))) + 1)) : Int).toNat from by omega)
                       replace q52 := eq_true q52
                       go_wp2_with (first | ((with_reducible refine gate_callee (f := 104) rfl ?_); refine goesL_ (some 124) rfl rfl Tryd.func104 (by kernel_rfl) rfl #[.slice A52 y192.length c52, .slice (some ad187) t181.length co21, .int .u64 x15_29] rfl (by (try simp only [List.map_toArray, List.map_cons, List.map_nil]); first | done | rfl | (simp only [List.length_drop, List.length_take]; rfl) | (go_simp; done) | (go_simp; rfl) | (go_simp; (try simp only [IntKind.wrap_u8, IntKind.wrap_u32, IntKind.wrap_u64]); omega)) ?_; (with_reducible refine (bignat_subtractScaled.part kj29 (fun k_ => some k_ = (.slice (some ad189) x8_1.length co32 : Value).ownBlock) ad189 (x8_1.length) co32 x8_1 x13_1 (wrap64 ((wrap64 (x13_1 + (l1.length : Int))) + 1)) A52 y192.length c52 y192 KA52.out KY52.out Ny192.out KL52.out KM52.out _ _ t181 x15_29 true t197 w _ ?side1 ?side2 ?side3 ?side4 A44.out).mono ?_); (case side1 => repeat (first | (with_reducible first | exact HB.out | apply below_alloc | apply pw_below_drewN | apply below_drew1) | exact HB.out)); (case side2 => exact Kd.R_tight rfl HO_8.out); (case side3 => exact Kd.C_kept_own (HO_9.out) (fun k_ hk_ hs_ => (hk_.1) hs_)); (case side4 => exact (Kd.R_reads' HO_9.out).2.1); rintro e w53 ⟨rfl, hy0, hb, hkp⟩; refine ⟨_, rfl, ?_⟩; have n0_ := Aside0.mk (Kd.R_reok rfl hy0 (fun k_ e_ => HO_8.out.1 k_ e_)); have n1_ := Aside0.mk (Kd.R_mono (ok' := fun k_ => some k_ ≠ (.slice (some ad189) x8_1.length co32 : Value).ownBlock ∧ some k_ ≠ (v185 : Value).ownBlock) (Kd.R_keptB (HO_9.out) hkp (fun k_ hk_ hs_ => (hk_.1) hs_)) (fun k_ hk_ => ⟨hk_.1.1, hk_.1.2⟩)); have n2_ := Aside0.mk (Kd.R_mono (ok' := fun k_ => some k_ ≠ (.slice (some ad189) x8_1.length co32 : Value).ownBlock ∧ some k_ ≠ (.slice (some ad187) t181.length co21 : Value).ownBlock) (Kd.R_keptB (HO_10.out) hkp (fun k_ hk_ hs_ => (hk_.1) hs_)) (fun k_ hk_ => ⟨hk_.1.1, hk_.1.2⟩)); have n3_ := Aside0.mk (hb); clear HO_8; clear HO_9; clear HO_10; clear HB; have HO_8 := n0_; have HO_9 := n1_; have HO_10 := n2_; have HB := n3_; clear n0_ n1_ n2_ n3_; (try clear hb); (try clear hkp); (try clear hy0); have hlx54 := (Kd.R_reads' HO_8.out).1; have q54 : ((wrap64 ((wrap64 (x13_1 + (l1.length : Int))) + 1)) : Int) ≤ ((x8_1.length : Int) : Int) := of_decide_eq_true (by first | (with_reducible assumption) | assumption); obtain ⟨i054, hi054, _, hsz54, _⟩ := info_parts info37; have hroom54 : x8_1.length ≤ co32 := (Kd.R_reads' HO_8.out).2.1; have hroomc54 : t197.length ≤ co32 := (by rw [← hlx54]; exact hroom54); have hC54 : Kd.C (Kd.int .u32) _ (some ad189) t197.length t197 := (Kd.R_reads' HO_8.out).2.2; have ql54 : (x13_1 : Int) ≤ ((wrap64 ((wrap64 (x13_1 + (l1.length : Int))) + 1)) : Int) := of_decide_eq_true (by first | (with_reducible assumption) | assumption); have q054 : (0 : Int) ≤ (x13_1 : Int) := of_decide_eq_true (by first | (with_reducible assumption) | assumption); have hcut54 := cut_mid (P := Tryd.prog) 23 37 .i64 .i64 Tryd.underlying23 hi054 1 hsz54 (some ad189) x8_1.length co32 x13_1 (wrap64 ((wrap64 (x13_1 + (l1.length : Int))) + 1)) q054 ql54 q54 hroom54; have hr54 := Kd.C_mid (lo := (x13_1 : Int).toNat) (hi := ((wrap64 ((wrap64 (x13_1 + (l1.length : Int))) + 1)) : Int).toNat) (c := co32) hC54 (by omega) (by omega) hroomc54; obtain ⟨A54, hA54⟩ : ∃ A1, A1 = (if co32 = (x13_1 : Int).toNat then (some ad189) else ((some ad189) : Option Addr).map (·.add ((x13_1 : Int).toNat * 1))) := ⟨_, rfl⟩; obtain ⟨c54, hc54⟩ : ∃ c1, c1 = co32 - (x13_1 : Int).toNat := ⟨_, rfl⟩; have hy54 : y198.length = ((wrap64 ((wrap64 (x13_1 + (l1.length : Int))) + 1)) : Int).toNat - (x13_1 : Int).toNat := (by rw [Ny198.out, List.length_drop, List.length_take] <;> omega); rw [show ((t197).take ((wrap64 ((wrap64 (x13_1 + (l1.length : Int))) + 1)) : Int).toNat).drop (x13_1 : Int).toNat = y198 from Ny198.out.symm] at hr54; replace hr54 : Kd.C (Kd.int .u32) _ A54 y198.length y198 := (by rw [hA54]; exact hr54); rw [← hy54, ← hA54, ← hc54] at hcut54; have HR201 := Aside0.mk hr54; have HC201 := Aside0.mk (show y198.length ≤ c54 from by rw [hy54, hc54]; exact Nat.sub_le_sub_right (Nat.le_trans (by omega) hroom54) _); clear hr54 hC54 hroom54 hi054 hsz54 hc54 hroomc54; have KY54 := Aside0.mk hy54; have KA54 := Aside0.mk hA54; clear hy54 hA54; have KE54 := Aside0.mk hlx54; have KL54 := Aside0.mk (show ((wrap64 ((wrap64 (x13_1 + (l1.length : Int))) + 1)) : Int).toNat ≤ t197.length from by omega); have KM54 := Aside0.mk (show (x13_1 : Int).toNat ≤ ((wrap64 ((wrap64 (x13_1 + (l1.length : Int))) + 1)) : Int).toNat from by omega); clear hlx54; replace q54 := eq_true q54) | ((with_reducible refine gate_callee (f := 105) rfl ?_); refine goesL_ (some 135) rfl rfl Tryd.func105 (by kernel_rfl) rfl #[.slice A52 y192.length c52, .slice (some ad187) t181.length co21] rfl (by (try simp only [List.map_toArray, List.map_cons, List.map_nil]); first | done | rfl | (simp only [List.length_drop, List.length_take]; rfl) | (go_simp; done) | (go_simp; rfl) | (go_simp; (try simp only [IntKind.wrap_u8, IntKind.wrap_u32, IntKind.wrap_u64]); omega)) ?_; (with_reducible refine (bignat_addBack.part kj29 (fun k_ => some k_ = (.slice (some ad189) x8_1.length co32 : Value).ownBlock) ad189 (x8_1.length) co32 t197 x13_1 (wrap64 ((wrap64 (x13_1 + (l1.length : Int))) + 1)) A52 y192.length c52 y198 KA52.out KY52.out Ny198.out KL54.out KM54.out _ _ t181 t202 w _ ?side1 ?side2 ?side3 ?side4 A49.out).mono ?_); (case side1 => repeat (first | (with_reducible first | exact HB.out | apply below_alloc | apply pw_below_drewN | apply below_drew1) | exact HB.out)); (case side2 => exact Kd.R_tight rfl HO_8.out); (case side3 => exact Kd.C_kept_own (HO_9.out) (fun k_ hk_ hs_ => (hk_.1) hs_)); (case side4 => exact (Kd.R_reads' HO_9.out).2.1); rintro e w55 ⟨rfl, hy0, hb, hkp⟩; refine ⟨_, rfl, ?_⟩; have n0_ := Aside0.mk (Kd.R_reok rfl hy0 (fun k_ e_ => HO_8.out.1 k_ e_)); have n1_ := Aside0.mk (Kd.R_mono (ok' := fun k_ => some k_ ≠ (.slice (some ad189) x8_1.length co32 : Value).ownBlock ∧ some k_ ≠ (v185 : Value).ownBlock) (Kd.R_keptB (HO_9.out) hkp (fun k_ hk_ hs_ => (hk_.1) hs_)) (fun k_ hk_ => ⟨hk_.1.1, hk_.1.2⟩)); have n2_ := Aside0.mk (Kd.R_mono (ok' := fun k_ => some k_ ≠ (.slice (some ad189) x8_1.length co32 : Value).ownBlock ∧ some k_ ≠ (.slice (some ad187) t181.length co21 : Value).ownBlock) (Kd.R_keptB (HO_10.out) hkp (fun k_ hk_ hs_ => (hk_.1) hs_)) (fun k_ hk_ => ⟨hk_.1.1, hk_.1.2⟩)); have n3_ := Aside0.mk (hb); clear HO_8; clear HO_9; clear HO_10; clear HB; have HO_8 := n0_; have HO_9 := n1_; have HO_10 := n2_; have HB := n3_; clear n0_ n1_ n2_ n3_; (try clear hb); (try clear hkp); (try clear hy0); have p51 : 0 ≤ (x13_1 : Int) := of_decide_eq_true (by first | (with_reducible assumption) | assumption); have q51 : (x13_1 : Int) < ((x10_1.length : Int) : Int) := of_decide_eq_true (by first | (with_reducible assumption) | assumption); obtain ⟨go51, co51, eo51, gb51, gl51, cl51, HG51⟩ := Kd.R_form HO_10.out (by omega); (first | cases eo51 | (injection eo51 with ea_ en_ ec_; (first | subst ea_ | (injection ea_ with ea_; subst ea_)); subst ec_; clear en_)); have GB51 := Aside0.mk gb51; have GG51 := Aside0.mk HG51; clear gb51 gl51 HG51; obtain ⟨hx51_0, hf51_0⟩ := Kd.R_celln 0 HO_10.out (x13_1 : Int) p51 q51; replace p51 := eq_true p51; replace q51 := eq_true q51; obtain ⟨hy56_, hz56_⟩ := Kd.R_celln 0 HO_10.out (x13_1 : Int) (of_decide_eq_true (by first | (with_reducible assumption) | assumption)) (of_decide_eq_true (by first | (with_reducible assumption) | assumption)); have HP56 := Kd.R_putg HO_10.out (x13_1 : Int) ((IntKind.u64.wrap (x15_29 - 1)) % 4294967296)) | ((with_reducible refine gate_store (t := 37) (p := 140) rfl ?_); refine store_event (t := 37) (p := 140) (v := ?vo_w57) (w1 := (w55.setCell ⟨go51, (x13_1 : Int).toNat, none⟩ (.int .u32 ((IntKind.u64.wrap (x15_29 - 1)) % 4294967296)))) ?hg ?ho ?hn ?hr ?_; (case ho => rfl); (case hg => rfl); (case hn => rfl); (case hr => first | (go_simp; done) | (go_simp; rfl)); intro w57 hw; have hg : w55.grownBy w57 (some go51) := (by rw [hw]; exact HP56.2); have hp_ : Kd.R (Kd.int .u32) 37 w57 w.heap.size (fun k_ => some k_ ≠ (.slice (some ad189) x8_1.length co32 : Value).ownBlock ∧ some k_ ≠ (.slice (some ad187) t181.length co21 : Value).ownBlock) (.slice (some ⟨go51, 0, none⟩) x10_1.length co51) y203 := (by rw [hw, Ny203.out]; exact HP56.1); clear HP56; have n0_ := Aside0.mk (Kd.R_after (v := (.slice (some ⟨go51, 0, none⟩) x10_1.length co51)) (v1 := (.slice (some ⟨go51, 0, none⟩) x10_1.length co51)) (ok := (fun k_ => some k_ ≠ (.slice (some ad187) t181.length co21 : Value).ownBlock)) (by (with_reducible repeat (first | apply Kd.R_alloc | apply Kd.R_drewN | apply Kd.R_drew)); exact HO_8.out) hg (.inl rfl)); have n1_ := Aside0.mk (Kd.R_after (v := (.slice (some ⟨go51, 0, none⟩) x10_1.length co51)) (v1 := (.slice (some ⟨go51, 0, none⟩) x10_1.length co51)) (ok := (fun k_ => some k_ ≠ (.slice (some ad189) x8_1.length co32 : Value).ownBlock)) (by (with_reducible repeat (first | apply Kd.R_alloc | apply Kd.R_drewN | apply Kd.R_drew)); exact HO_9.out) hg (.inl rfl)); have n2_ := Aside0.mk (hp_); have n3_ := Aside0.mk ((by rw [hw]; exact below_set (HB.out) GB51.out : Below w.heap.size w w57)); clear HO_8; clear HO_9; clear HO_10; clear HB; have HO_8 := n0_; have HO_9 := n1_; have HO_10 := n2_; have HB := n3_; clear n0_ n1_ n2_ n3_; clear hg hw hp_))
                       go_roundg kj29
                       case measure => have := HK1.out; have := HJ29.out; omega
                       case rel => exact ⟨(t202), (y203), (wrap64 (x13_1 - 1)), (by first | rfl | (simp; done) | (simp [*]; done)), H', ⟨by have := HK1.out; have := HJ29.out; omega⟩, ⟨by (with_reducible repeat (first | apply Kd.R_alloc | apply Kd.R_drewN | apply Kd.R_drew)); exact HO_8.out⟩, ⟨by (with_reducible repeat (first | apply Kd.R_alloc | apply Kd.R_drewN | apply Kd.R_drew)); exact HO_9.out⟩, ⟨by (with_reducible repeat (first | apply Kd.R_alloc | apply Kd.R_drewN | apply Kd.R_drew)); exact HO_10.out⟩, ⟨by repeat (first | (with_reducible first | exact HB.out | apply below_alloc | apply pw_below_drewN | apply below_drew1) | exact HB.out)⟩⟩
                      ·
                       rw [if_neg c50] at H
                       exact absurd H (by simp)
                     ·
                      replace c45 := Bool.eq_false_iff.mpr c45
                      subst c45
                      have H1 : (if x13_1 < (x10_1.length : Int) then (bignat_divLong.l0 kj29 (l1.length : Int) (IntKind.u64.wrap (t177)) t197 t181 (x10_1.set (x13_1 : Int).toNat ((x15_29) % 4294967296)) (IntKind.u64.wrap (rd t181 (ji3))) (IntKind.u64.wrap (rd t181 (ji13))) (wrap64 (x13_1 - 1))) else (none)) = some (r1, r2) := by rw [if_neg (show ¬ (false = true) by decide)] at H; exact H
                      clear H
                      have H := H1
                      clear H1
                      by_cases c58 : x13_1 < (x10_1.length : Int)
                      ·
                       rw [if_pos c58] at H
                       have c58b0 : decide (x13_1 < (x10_1.length : Int)) = true := decide_eq_true c58
                       clear c58
                       obtain ⟨y204, hy204⟩ : ∃ y_ : List Int, y_ = (x10_1.set (x13_1 : Int).toNat ((x15_29) % 4294967296)) := ⟨_, rfl⟩
                       replace H : (bignat_divLong.l0 kj29 (l1.length : Int) (IntKind.u64.wrap (t177)) t197 t181 y204 (IntKind.u64.wrap (rd t181 (ji3))) (IntKind.u64.wrap (rd t181 (ji13))) (wrap64 (x13_1 - 1))) = some (r1, r2) := by first | (rw [hy204]; with_reducible exact H) | (have H2_ := (Option.bind_some _ _).symm.trans H; rw [hy204]; with_reducible exact H2_) | (have H2_ := (Option.bind_some _ _).symm.trans H; with_reducible exact H2_) | with_reducible exact H | (rw [hy204]; exact H) | exact H
                       have Ny204 := Aside0.mk hy204
                       clear hy204
                       have H' := Aside0.mk H
                       clear H
                       have q60 : ((wrap64 ((wrap64 (x13_1 + (l1.length : Int))) + 1)) : Int) ≤ ((x8_1.length : Int) : Int) := of_decide_eq_true (by first | (with_reducible assumption) | assumption)
                       obtain ⟨i060, hi060, _, hsz60, _⟩ := info_parts info37
                       have hroom60 : x8_1.length ≤ co32 := (Kd.R_reads' HO_8.out).2.1
                       have hC60 : Kd.C (Kd.int .u32) _ (some ad189) x8_1.length x8_1 := (Kd.R_reads' HO_8.out).2.2
                       have ql60 : (x13_1 : Int) ≤ ((wrap64 ((wrap64 (x13_1 + (l1.length : Int))) + 1)) : Int) := of_decide_eq_true (by first | (with_reducible assumption) | assumption)
                       have q060 : (0 : Int) ≤ (x13_1 : Int) := of_decide_eq_true (by first | (with_reducible assumption) | assumption)
                       have hcut60 := cut_mid (P := Tryd.prog) 23 37 .i64 .i64 Tryd.underlying23 hi060 1 hsz60 (some ad189) x8_1.length co32 x13_1 (wrap64 ((wrap64 (x13_1 + (l1.length : Int))) + 1)) q060 ql60 q60 hroom60
                       have hr60 := Kd.C_mid (lo := (x13_1 : Int).toNat) (hi := ((wrap64 ((wrap64 (x13_1 + (l1.length : Int))) + 1)) : Int).toNat) (c := co32) hC60 (by omega) (by omega) hroom60
                       obtain ⟨A60, hA60⟩ : ∃ A1, A1 = (if co32 = (x13_1 : Int).toNat then (some ad189) else ((some ad189) : Option Addr).map (·.add ((x13_1 : Int).toNat * 1))) := ⟨_, rfl⟩
                       obtain ⟨c60, hc60⟩ : ∃ c1, c1 = co32 - (x13_1 : Int).toNat := ⟨_, rfl⟩
                       have hy60 : y192.length = ((wrap64 ((wrap64 (x13_1 + (l1.length : Int))) + 1)) : Int).toNat - (x13_1 : Int).toNat := (by rw [Ny192.out, List.length_drop, List.length_take] <;> omega)
                       rw [show ((x8_1).take ((wrap64 ((wrap64 (x13_1 + (l1.length : Int))) + 1)) : Int).toNat).drop (x13_1 : Int).toNat = y192 from Ny192.out.symm] at hr60
                       replace hr60 : Kd.C (Kd.int .u32) _ A60 y192.length y192 := (by rw [hA60]; exact hr60)
                       rw [← hy60, ← hA60, ← hc60] at hcut60
                       have HR195 := Aside0.mk hr60
                       have HC195 := Aside0.mk (show y192.length ≤ c60 from by rw [hy60, hc60]; exact Nat.sub_le_sub_right (Nat.le_trans (by omega) hroom60) _)
                       clear hr60 hC60 hroom60 hi060 hsz60 hc60
                       have KY60 := Aside0.mk hy60
                       have KA60 := Aside0.mk hA60
                       clear hy60 hA60
                       have KL60 := Aside0.mk (show ((wrap64 ((wrap64 (x13_1 + (l1.length : Int))) + 1)) : Int).toNat ≤ x8_1.length from by omega)
                       have KM60 := Aside0.mk (show (x13_1 : Int).toNat ≤ ((wrap64 ((wrap64 (x13_1 + (l1.length : Int))) + 1)) : Int).toNat from by omega)
                       replace q60 := eq_true q60
                       go_wp2_with (first | ((with_reducible refine gate_callee (f := 104) rfl ?_); refine goesL_ (some 124) rfl rfl Tryd.func104 (by kernel_rfl) rfl #[.slice A60 y192.length c60, .slice (some ad187) t181.length co21, .int .u64 x15_29] rfl (by (try simp only [List.map_toArray, List.map_cons, List.map_nil]); first | done | rfl | (simp only [List.length_drop, List.length_take]; rfl) | (go_simp; done) | (go_simp; rfl) | (go_simp; (try simp only [IntKind.wrap_u8, IntKind.wrap_u32, IntKind.wrap_u64]); omega)) ?_; (with_reducible refine (bignat_subtractScaled.part kj29 (fun k_ => some k_ = (.slice (some ad189) x8_1.length co32 : Value).ownBlock) ad189 (x8_1.length) co32 x8_1 x13_1 (wrap64 ((wrap64 (x13_1 + (l1.length : Int))) + 1)) A60 y192.length c60 y192 KA60.out KY60.out Ny192.out KL60.out KM60.out _ _ t181 x15_29 false t197 w _ ?side1 ?side2 ?side3 ?side4 A44.out).mono ?_); (case side1 => repeat (first | (with_reducible first | exact HB.out | apply below_alloc | apply pw_below_drewN | apply below_drew1) | exact HB.out)); (case side2 => exact Kd.R_tight rfl HO_8.out); (case side3 => exact Kd.C_kept_own (HO_9.out) (fun k_ hk_ hs_ => (hk_.1) hs_)); (case side4 => exact (Kd.R_reads' HO_9.out).2.1); rintro e w61 ⟨rfl, hy0, hb, hkp⟩; refine ⟨_, rfl, ?_⟩; have n0_ := Aside0.mk (Kd.R_reok rfl hy0 (fun k_ e_ => HO_8.out.1 k_ e_)); have n1_ := Aside0.mk (Kd.R_mono (ok' := fun k_ => some k_ ≠ (.slice (some ad189) x8_1.length co32 : Value).ownBlock ∧ some k_ ≠ (v185 : Value).ownBlock) (Kd.R_keptB (HO_9.out) hkp (fun k_ hk_ hs_ => (hk_.1) hs_)) (fun k_ hk_ => ⟨hk_.1.1, hk_.1.2⟩)); have n2_ := Aside0.mk (Kd.R_mono (ok' := fun k_ => some k_ ≠ (.slice (some ad189) x8_1.length co32 : Value).ownBlock ∧ some k_ ≠ (.slice (some ad187) t181.length co21 : Value).ownBlock) (Kd.R_keptB (HO_10.out) hkp (fun k_ hk_ hs_ => (hk_.1) hs_)) (fun k_ hk_ => ⟨hk_.1.1, hk_.1.2⟩)); have n3_ := Aside0.mk (hb); clear HO_8; clear HO_9; clear HO_10; clear HB; have HO_8 := n0_; have HO_9 := n1_; have HO_10 := n2_; have HB := n3_; clear n0_ n1_ n2_ n3_; (try clear hb); (try clear hkp); (try clear hy0); have p59 : 0 ≤ (x13_1 : Int) := of_decide_eq_true (by first | (with_reducible assumption) | assumption); have q59 : (x13_1 : Int) < ((x10_1.length : Int) : Int) := of_decide_eq_true (by first | (with_reducible assumption) | assumption); obtain ⟨go59, co59, eo59, gb59, gl59, cl59, HG59⟩ := Kd.R_form HO_10.out (by omega); (first | cases eo59 | (injection eo59 with ea_ en_ ec_; (first | subst ea_ | (injection ea_ with ea_; subst ea_)); subst ec_; clear en_)); have GB59 := Aside0.mk gb59; have GG59 := Aside0.mk HG59; clear gb59 gl59 HG59; obtain ⟨hx59_0, hf59_0⟩ := Kd.R_celln 0 HO_10.out (x13_1 : Int) p59 q59; replace p59 := eq_true p59; replace q59 := eq_true q59; obtain ⟨hy62_, hz62_⟩ := Kd.R_celln 0 HO_10.out (x13_1 : Int) (of_decide_eq_true (by first | (with_reducible assumption) | assumption)) (of_decide_eq_true (by first | (with_reducible assumption) | assumption)); have HP62 := Kd.R_putg HO_10.out (x13_1 : Int) ((x15_29) % 4294967296)) | ((with_reducible refine gate_store (t := 37) (p := 140) rfl ?_); refine store_event (t := 37) (p := 140) (v := ?vo_w63) (w1 := (w61.setCell ⟨go59, (x13_1 : Int).toNat, none⟩ (.int .u32 ((x15_29) % 4294967296)))) ?hg ?ho ?hn ?hr ?_; (case ho => rfl); (case hg => rfl); (case hn => rfl); (case hr => first | (go_simp; done) | (go_simp; rfl)); intro w63 hw; have hg : w61.grownBy w63 (some go59) := (by rw [hw]; exact HP62.2); have hp_ : Kd.R (Kd.int .u32) 37 w63 w.heap.size (fun k_ => some k_ ≠ (.slice (some ad189) x8_1.length co32 : Value).ownBlock ∧ some k_ ≠ (.slice (some ad187) t181.length co21 : Value).ownBlock) (.slice (some ⟨go59, 0, none⟩) x10_1.length co59) y204 := (by rw [hw, Ny204.out]; exact HP62.1); clear HP62; have n0_ := Aside0.mk (Kd.R_after (v := (.slice (some ⟨go59, 0, none⟩) x10_1.length co59)) (v1 := (.slice (some ⟨go59, 0, none⟩) x10_1.length co59)) (ok := (fun k_ => some k_ ≠ (.slice (some ad187) t181.length co21 : Value).ownBlock)) (by (with_reducible repeat (first | apply Kd.R_alloc | apply Kd.R_drewN | apply Kd.R_drew)); exact HO_8.out) hg (.inl rfl)); have n1_ := Aside0.mk (Kd.R_after (v := (.slice (some ⟨go59, 0, none⟩) x10_1.length co59)) (v1 := (.slice (some ⟨go59, 0, none⟩) x10_1.length co59)) (ok := (fun k_ => some k_ ≠ (.slice (some ad189) x8_1.length co32 : Value).ownBlock)) (by (with_reducible repeat (first | apply Kd.R_alloc | apply Kd.R_drewN | apply Kd.R_drew)); exact HO_9.out) hg (.inl rfl)); have n2_ := Aside0.mk (hp_); have n3_ := Aside0.mk ((by rw [hw]; exact below_set (HB.out) GB59.out : Below w.heap.size w w63)); clear HO_8; clear HO_9; clear HO_10; clear HB; have HO_8 := n0_; have HO_9 := n1_; have HO_10 := n2_; have HB := n3_; clear n0_ n1_ n2_ n3_; clear hg hw hp_))
                       go_roundg kj29
                       case measure => have := HK1.out; have := HJ29.out; omega
                       case rel => exact ⟨(t197), (y204), (wrap64 (x13_1 - 1)), (by first | rfl | (simp; done) | (simp [*]; done)), H', ⟨by have := HK1.out; have := HJ29.out; omega⟩, ⟨by (with_reducible repeat (first | apply Kd.R_alloc | apply Kd.R_drewN | apply Kd.R_drew)); exact HO_8.out⟩, ⟨by (with_reducible repeat (first | apply Kd.R_alloc | apply Kd.R_drewN | apply Kd.R_drew)); exact HO_9.out⟩, ⟨by (with_reducible repeat (first | apply Kd.R_alloc | apply Kd.R_drewN | apply Kd.R_drew)); exact HO_10.out⟩, ⟨by repeat (first | (with_reducible first | exact HB.out | apply below_alloc | apply pw_below_drewN | apply below_drew1) | exact HB.out)⟩⟩
                      ·
                       rw [if_neg c58] at H
                       exact absurd H (by simp)
                    ·
                     rw [if_neg c43] at H
                     exact absurd H (by simp)
                   ·
                    rw [if_neg c42] at H
                    exact absurd H (by simp)
                  ·
                   rw [if_neg c41] at H
                   exact absurd H (by simp)
              ·
               rw [if_neg c28] at H
               exact absurd H (by simp)
             ·
              rw [if_neg c27] at H
              exact absurd H (by simp)
            ·
             rw [if_neg c25] at H
             exact absurd H (by simp)
           ·
            rw [if_neg c24] at H
            exact absurd H (by simp)
          ·
           rw [if_neg c22] at H
           have c22b0 : decide (0 ≤ x13_1) = false := decide_eq_false c22
           clear c22
           by_cases c64 : 0 ≤ (l1.length : Int)
           ·
            rw [if_pos c64] at H
            have c64b0 := eq_true c64
            have c64b1 : decide (0 ≤ (l1.length : Int)) = true := decide_eq_true c64
            clear c64
            by_cases c65 : ((l1.length : Int) : Int).toNat ≤ 70368744177664
            ·
             rw [if_pos c65] at H
             have c65b0 := eq_true c65
             have c65b1 : decide (((l1.length : Int) : Int).toNat ≤ 70368744177664) = true := decide_eq_true c65
             clear c65
             obtain ⟨y205, hy205⟩ : ∃ y_ : List Int, y_ = (List.replicate ((l1.length : Int) : Int).toNat 0) := ⟨_, rfl⟩
             replace H : (bignat_divLong.l2 k1 (IntKind.u64.wrap (t177)) x8_1 x10_1 y205 (y205.length : Int) 0) = some (r1, r2) := by first | (rw [hy205]; with_reducible exact H) | (have H2_ := (Option.bind_some _ _).symm.trans H; rw [hy205]; with_reducible exact H2_) | (have H2_ := (Option.bind_some _ _).symm.trans H; with_reducible exact H2_) | with_reducible exact H | (rw [hy205]; exact H) | exact H
             have Ny205 := Aside0.mk hy205
             clear hy205
             have H' := Aside0.mk H
             clear H
             go_wp2_with (first | ((with_reducible refine gate_dst (N := 142) rfl ?_); refine Kd.R_make (Kd.int .u32) _ 37 rfl (N := 142) rfl 23 _ _ rfl (l1.length : Int) rfl rfl Tryd.underlying23 (.int .u32 0) 4 info37 rfl (by decide) (by omega) 0 (ok := fun _ => True) (okp := fun _ => True) rfl (fun _ hk => hk) trivial (of_decide_eq_true (by first | (with_reducible assumption) | assumption)) (Nat.le_trans (Nat.mul_le_mul_right _ (of_decide_eq_true (by first | (with_reducible assumption) | assumption) : (l1.length : Int).toNat ≤ 70368744177664)) (by omega)) (Below.refl _ _) (Nat.le_refl _) ?_; intro v206 w66 ho67 hb hg_ hnew_; clear hg_ hnew_; (first | rw [← Ny205.out] at ho67 | (simp only [Int.reduceToNat] at ho67; rw [← Ny205.out] at ho67)); have n0_ := Aside0.mk (Kd.R_elder' (by (with_reducible repeat (first | apply Kd.R_alloc | apply Kd.R_drewN | apply Kd.R_drew)); exact HO_8.out) (Kd.R_base ho67) hb); have n1_ := Aside0.mk (Kd.R_elder' (by (with_reducible repeat (first | apply Kd.R_alloc | apply Kd.R_drewN | apply Kd.R_drew)); exact HO_9.out) (Kd.R_base ho67) hb); have n2_ := Aside0.mk (Kd.R_elder' (by (with_reducible repeat (first | apply Kd.R_alloc | apply Kd.R_drewN | apply Kd.R_drew)); exact HO_10.out) (Kd.R_base ho67) hb); have n3_ := Aside0.mk (Kd.R_lower (Kd.R_new' (Kd.R_new' (Kd.R_new' ho67 (Kd.R_lt (by (with_reducible repeat (first | apply Kd.R_alloc | apply Kd.R_drewN | apply Kd.R_drew)); exact HO_8.out))) (Kd.R_lt (by (with_reducible repeat (first | apply Kd.R_alloc | apply Kd.R_drewN | apply Kd.R_drew)); exact HO_9.out))) (Kd.R_lt (by (with_reducible repeat (first | apply Kd.R_alloc | apply Kd.R_drewN | apply Kd.R_drew)); exact HO_10.out))) (below_size (by repeat (first | (with_reducible first | exact HB.out | apply below_alloc | apply pw_below_drewN | apply below_drew1) | exact HB.out)))); have n4_ := Aside0.mk (below_step (by repeat (first | (with_reducible first | exact HB.out | apply below_alloc | apply pw_below_drewN | apply below_drew1) | exact HB.out)) hb); clear HO_8; clear HO_9; clear HO_10; clear HB; have HO_8 := n0_; have HO_9 := n1_; have HO_10 := n2_; have HO207 := n3_; have HB := n4_; clear n0_ n1_ n2_ n3_ n4_; clear hb ho67; obtain ⟨Ao68, co68, eo68⟩ := Kd.R_slice HO207.out; subst eo68))
             go_loopg [145] k1 (fun kq v145 w' => ∃ (x17_2 : List Int) (x145_2 : Int), v145 = .int .i64 x145_2 ∧ Aside0 (bignat_divLong.l2 kq (IntKind.u64.wrap (t177)) x8_1 x10_1 x17_2 (y205.length : Int) x145_2 = some (r1, r2)) ∧ Aside0 (kq ≤ k1) ∧ Aside0 (Kd.R (Kd.int .u32) 37 w' w.heap.size (fun k_ => some k_ ≠ (v185 : Value).ownBlock ∧ some k_ ≠ ((.slice Ao68 y205.length co68) : Value).ownBlock) v179 x8_1) ∧ Aside0 (Kd.R (Kd.int .u32) 37 w' w.heap.size (fun k_ => some k_ ≠ (v179 : Value).ownBlock ∧ some k_ ≠ ((.slice Ao68 y205.length co68) : Value).ownBlock) v185 x10_1) ∧ Aside0 (Kd.R (Kd.int .u32) 37 w' w.heap.size (fun k_ => some k_ ≠ (v179 : Value).ownBlock ∧ some k_ ≠ (v185 : Value).ownBlock) (.slice Ao68 y205.length co68) x17_2) ∧ Aside0 (Below w.heap.size w w'))
             case atStart => exact ⟨(y205), (0), (by first | rfl | (simp; done) | (simp [*]; done)), H', ⟨Nat.le_refl _⟩, ⟨by (with_reducible repeat (first | apply Kd.R_alloc | apply Kd.R_drewN | apply Kd.R_drew)); exact Kd.R_mono HO_8.out (fun _ hk => ⟨hk.1.2, hk.2⟩)⟩, ⟨by (with_reducible repeat (first | apply Kd.R_alloc | apply Kd.R_drewN | apply Kd.R_drew)); exact Kd.R_mono HO_10.out (fun _ hk => ⟨hk.1.1, hk.2⟩)⟩, ⟨by (with_reducible repeat (first | apply Kd.R_alloc | apply Kd.R_drewN | apply Kd.R_drew)); exact Kd.R_mono HO207.out (fun _ hk => ⟨hk.1.1.2, hk.2⟩)⟩, ⟨by repeat (first | (with_reducible first | exact HB.out | apply below_alloc | apply pw_below_drewN | apply below_drew1) | exact HB.out)⟩⟩
             case round =>
              clear H'
              try clear c1
              try clear p1
              try clear q1
              try clear hx1
              try clear c2
              try clear p2
              try clear c3
              try clear c4
              try clear c4b0
              try clear c5
              try clear c5b0
              try clear p5
              try clear q5
              try clear hx5
              try clear hf5
              try clear c6
              try clear p6
              try clear q6
              try clear c9
              try clear c10
              try clear c10b0
              try clear c10b1
              try clear c11
              try clear c11b0
              try clear c11b1
              try clear c12
              try clear c12b0
              try clear c14
              try clear c14b0
              try clear c15
              try clear c15b0
              try clear p17
              try clear q17
              try clear hx17
              try clear p18
              try clear q18
              try clear hx18
              try clear p19
              try clear q19
              try clear hx19
              try clear c22
              try clear c22b0
              try clear c24
              try clear c24b0
              try clear c25
              try clear c25b0
              try clear c27
              try clear c27b0
              try clear c28
              try clear c28b0
              try clear c29
              try clear c29b0
              try clear c29b1
              try clear c35
              try clear c35b0
              try clear c35b1
              try clear c37
              try clear c37b0
              try clear c38
              try clear c38b0
              try clear c39
              try clear c40
              try clear c40b0
              try clear c40b1
              try clear c41
              try clear c41b0
              try clear c41b1
              try clear c42
              try clear c42b0
              try clear c42b1
              try clear c43
              try clear c43b0
              try clear c43b1
              try clear c45
              try clear c46
              try clear c46b0
              try clear c47
              try clear c47b0
              try clear c48
              try clear c48b0
              try clear c50
              try clear c50b0
              try clear p51
              try clear q51
              try clear hx51
              try clear hf51
              try clear c52
              try clear q52
              try clear c54
              try clear q54
              try clear c58
              try clear c58b0
              try clear p59
              try clear q59
              try clear hx59
              try clear hf59
              try clear c60
              try clear q60
              try clear c64
              try clear c64b0
              try clear c64b1
              try clear p64
              try clear c65
              try clear c65b0
              try clear c65b1
              try clear hx176_0
              try clear hx187_0
              try clear hx188_0
              try clear hx189_0
              try clear hx190_0
              try clear hx191_0
              try clear hx51_0
              try clear hx59_0
              try clear p1
              try clear p17
              try clear p176
              try clear p18
              try clear p187
              try clear p188
              try clear p189
              try clear p19
              try clear p190
              try clear p191
              try clear p2
              try clear p51
              try clear p59
              try clear p6
              try clear q052
              try clear q054
              try clear q060
              try clear q1
              try clear q17
              try clear q176
              try clear q18
              try clear q187
              try clear q188
              try clear q189
              try clear q19
              try clear q190
              try clear q191
              try clear q51
              try clear q52
              try clear q54
              try clear q59
              try clear q60
              obtain ⟨x17_2, x145_2, rfl, HA, HK2, HO_8, HO_10, HO_17, HB⟩ := hrel
              have hl17_2 := (Kd.R_reads' HO_17.out).1
              rw [hl17_2] at HO_17
              (try simp only [hl17_2])
              (try simp only [hl17_2] at HO_8)
              (try simp only [hl17_2] at HO_10)
              cases gk with
              | zero => exact absurd HA.out (by simp [bignat_divLong.l2])
              | succ k2 =>
               have H := HA.out
               clear HA
               simp only [bignat_divLong.l2] at H
               by_cases c69 : x145_2 < (y205.length : Int)
               ·
                rw [if_pos c69] at H
                have c69b0 : decide (x145_2 < (y205.length : Int)) = true := decide_eq_true c69
                (try (have c69b0h := c69b0; simp only [hl17_2] at c69b0h))
                clear c69
                obtain ⟨ji70, hji70⟩ : ∃ j_ : Int, (wrap64 (x145_2 + 1)) = j_ := ⟨_, rfl⟩
                replace H : (if 0 ≤ (ji70) then (if (ji70) < (x8_1.length : Int) then (if 0 ≤ x145_2 then (if x145_2 < (x8_1.length : Int) then (if 0 ≤ (IntKind.u64.wrap (t177)) then (if x145_2 < (x17_2.length : Int) then (bignat_divLong.l2 k2 (IntKind.u64.wrap (t177)) x8_1 x10_1 (x17_2.set (x145_2 : Int).toNat ((shr .u64 (Go.bits .or .u64 (IntKind.u64.wrap ((IntKind.u64.wrap (rd x8_1 (ji70))) * 4294967296)) (IntKind.u64.wrap (rd x8_1 x145_2))) (IntKind.u64.wrap (t177))) % 4294967296)) (y205.length : Int) ji70) else (none)) else (none)) else (none)) else (none)) else (none)) else (none)) = some (r1, r2) := by first | (rw [hji70] at H; exact H) | (simp only [hji70] at H ⊢; exact H)
                have hji70w : (IntKind.i64.wrap (x145_2 + 1)) = ji70 := (i64_w _).trans hji70
                (try (have hji70r := hji70; simp only [hji3, hji9, hji13, hji23, hji26] at hji70r))
                (try (have hji70wr := hji70w; simp only [hji3, hji9, hji13, hji23, hji26] at hji70wr))
                by_cases c71 : 0 ≤ (ji70)
                ·
                 rw [if_pos c71] at H
                 have c71b0 : decide (0 ≤ (ji70)) = true := decide_eq_true c71
                 clear c71
                 by_cases c72 : (ji70) < (x8_1.length : Int)
                 ·
                  rw [if_pos c72] at H
                  have c72b0 : decide ((ji70) < (x8_1.length : Int)) = true := decide_eq_true c72
                  (try (have c72b0h := c72b0; simp only [hl17_2] at c72b0h))
                  clear c72
                  by_cases c73 : 0 ≤ x145_2
                  ·
                   rw [if_pos c73] at H
                   have c73b0 : decide (0 ≤ x145_2) = true := decide_eq_true c73
                   clear c73
                   by_cases c74 : x145_2 < (x8_1.length : Int)
                   ·
                    rw [if_pos c74] at H
                    have c74b0 : decide (x145_2 < (x8_1.length : Int)) = true := decide_eq_true c74
                    (try (have c74b0h := c74b0; simp only [hl17_2] at c74b0h))
                    clear c74
                    by_cases c76 : 0 ≤ (IntKind.u64.wrap (t177))
                    ·
                     rw [if_pos c76] at H
                     have c76b0 := eq_true c76
                     have c76b1 : decide (0 ≤ (IntKind.u64.wrap (t177))) = true := decide_eq_true c76
                     clear c76
                     obtain ⟨ji77, hji77⟩ : ∃ j_ : Int, (shr .u64 (Go.bits .or .u64 (IntKind.u64.wrap ((IntKind.u64.wrap (rd x8_1 (ji70))) * 4294967296)) (IntKind.u64.wrap (rd x8_1 x145_2))) (IntKind.u64.wrap (t177))) = j_ := ⟨_, rfl⟩
                     replace H : (if x145_2 < (x17_2.length : Int) then (bignat_divLong.l2 k2 (IntKind.u64.wrap (t177)) x8_1 x10_1 (x17_2.set (x145_2 : Int).toNat ((ji77) % 4294967296)) (y205.length : Int) ji70) else (none)) = some (r1, r2) := by first | (rw [hji77] at H; exact H) | (simp only [hji77] at H ⊢; exact H)
                     have hji77_ : ((Go.bits .or .u64 (IntKind.u64.wrap ((IntKind.u64.wrap (rd x8_1 (ji70))) * 4294967296)) (IntKind.u64.wrap (rd x8_1 x145_2))) / 2 ^ min (IntKind.u64.wrap (t177)).toNat 64) = ji77 := hji77
                     have hji77z : (IntKind.u64.wrap (t177)) ≤ 64 → ((Go.bits .or .u64 (IntKind.u64.wrap ((IntKind.u64.wrap (rd x8_1 (ji70))) * 4294967296)) (IntKind.u64.wrap (rd x8_1 x145_2))) / 2 ^ (IntKind.u64.wrap (t177)).toNat) = ji77 := shr_small hji77
                     by_cases c78 : x145_2 < (x17_2.length : Int)
                     ·
                      rw [if_pos c78] at H
                      have c78b0 : decide (x145_2 < (x17_2.length : Int)) = true := decide_eq_true c78
                      (try (have c78b0h := c78b0; simp only [hl17_2] at c78b0h))
                      clear c78
                      obtain ⟨y210, hy210⟩ : ∃ y_ : List Int, y_ = (x17_2.set (x145_2 : Int).toNat ((ji77) % 4294967296)) := ⟨_, rfl⟩
                      replace H : (bignat_divLong.l2 k2 (IntKind.u64.wrap (t177)) x8_1 x10_1 y210 (y205.length : Int) ji70) = some (r1, r2) := by first | (rw [hy210]; with_reducible exact H) | (have H2_ := (Option.bind_some _ _).symm.trans H; rw [hy210]; with_reducible exact H2_) | (have H2_ := (Option.bind_some _ _).symm.trans H; with_reducible exact H2_) | with_reducible exact H | (rw [hy210]; exact H) | exact H
                      have Ny210 := Aside0.mk hy210
                      clear hy210
                      have H' := Aside0.mk H
                      clear H
                      try go_wp2
                      have n0_ := Aside0.mk (Kd.R_drew HO_8.out)
                      have n1_ := Aside0.mk (Kd.R_drew HO_10.out)
                      have n2_ := Aside0.mk (Kd.R_drew HO_17.out)
                      have n3_ := Aside0.mk (below_drew1 HB.out)
                      clear HO_8
                      clear HO_10
                      clear HO_17
                      clear HB
                      have HO_8 := n0_
                      have HO_10 := n1_
                      have HO_17 := n2_
                      have HB := n3_
                      clear n0_ n1_ n2_ n3_
                      obtain ⟨Ao81, co81, eo81⟩ := Kd.R_slice HO_8.out
                      (first | subst eo81 | (injection eo81 with f1_ f2_ f3_; have f4_ := f1_.symm; have f5_ := f3_.symm; clear f1_ f2_ f3_; subst f4_; subst f5_))
                      have p208 : 0 ≤ ((ji70) : Int) := of_decide_eq_true (by first | (with_reducible assumption) | assumption)
                      have q208 : (ji70) < (x8_1.length : Int) := of_decide_eq_true (by first | (with_reducible assumption) | assumption)
                      obtain ⟨ad208, e208, hx208_0⟩ := Kd.at_int (Kd.R_reads' HO_8.out).2.2 (ji70) p208 q208
                      cases e208
                      replace p208 := eq_true p208
                      replace q208 := eq_true q208
                      have p209 : 0 ≤ (x145_2 : Int) := of_decide_eq_true (by first | (with_reducible assumption) | assumption)
                      have q209 : x145_2 < (x8_1.length : Int) := of_decide_eq_true (by first | (with_reducible assumption) | assumption)
                      obtain ⟨ad209, e209, hx209_0⟩ := Kd.at_int (Kd.R_reads' HO_8.out).2.2 x145_2 p209 q209
                      obtain rfl : ad208 = ad209 := (by injection e209)
                      replace p209 := eq_true p209
                      replace q209 := eq_true q209
                      have p79 : 0 ≤ (x145_2 : Int) := of_decide_eq_true (by first | (with_reducible assumption) | assumption)
                      have q79 : (x145_2 : Int) < ((x17_2.length : Int) : Int) := of_decide_eq_true (by first | (with_reducible assumption) | assumption)
                      obtain ⟨go79, co79, eo79, gb79, gl79, cl79, HG79⟩ := Kd.R_form HO_17.out (by omega)
                      (first | cases eo79 | (injection eo79 with ea_ en_ ec_; (first | subst ea_ | (injection ea_ with ea_; subst ea_)); subst ec_; clear en_))
                      have GB79 := Aside0.mk gb79
                      have GG79 := Aside0.mk HG79
                      clear gb79 gl79 HG79
                      obtain ⟨hx79_0, hf79_0⟩ := Kd.R_celln 0 HO_17.out (x145_2 : Int) p79 q79
                      replace p79 := eq_true p79
                      replace q79 := eq_true q79
                      have HP82 := Kd.R_putn HO_17.out (x145_2 : Int) ((ji77) % 4294967296)
                      rw [← Ny210.out] at HP82
                      have HQ82 := Aside0.mk HP82
                      clear HP82
                      refine start_ (n := 20) (S := fun w' => w'.cell? (ad208.add ((ji70)).toNat) = some (.int .u32 (rd x8_1 (ji70))) ∧ w'.cell? (ad208.add (x145_2).toNat) = some (.int .u32 (rd x8_1 x145_2))) (ds := [19]) #[false, false, false, false, false, false, false, false, false, false, false, false, false, false, false, false, false, false, false, false] (by kernel_rfl) rfl rfl ⟨hx208_0, hx209_0⟩ (fun hHeld => ?_); refine with_tabW bignat_divLong.tab24 bignat_divLong.bits24 (fun HT_ HW_ => ?_)
                      generalize wr.drew = w80 at HO_8 HO_10 HO_17 HB GG79 HQ82 hf79_0 hx208_0 hx209_0 hx79_0 hHeld ⊢
                      refine pure_ (i := 0) (N := some 148) (v := ?_) (a' := ?_) #[true, false, false, false, false, false, false, false, false, false, false, false, false, false, false, false, false, false, false, false] rfl rfl (any_of HT_.out (by kernel_rfl)) (fun _ _ _ h => h) (Or.inl ⟨by rfl, ?_⟩) ?_ ?_
                      rotate_left
                      ·
                       intro w'
                       go_simp
                       with_reducible rfl
                      rotate_left
                      ·
                       simp only [Act.put, List.setIfInBounds_toArray, List.set_cons_zero, List.set_cons_succ, i64_w, i32_w]
                       rfl
                      refine pure_ (i := 1) (N := some 149) (v := ?_) (a' := ?_) #[true, true, false, false, false, false, false, false, false, false, false, false, false, false, false, false, false, false, false, false] rfl rfl (any_of HT_.out (by kernel_rfl)) (fun _ _ _ h => h) (Or.inl ⟨by rfl, ?_⟩) ?_ ?_
                      rotate_left
                      ·
                       intro w'
                       go_simp
                       with_reducible rfl
                      rotate_left
                      ·
                       simp only [Act.put, List.setIfInBounds_toArray, List.set_cons_zero, List.set_cons_succ, i64_w, i32_w]
                       rfl
                      refine pure_ (i := 2) (N := some 150) (v := ?_) (a' := ?_) #[true, true, true, false, false, false, false, false, false, false, false, false, false, false, false, false, false, false, false, false] rfl rfl (any_of HT_.out (by kernel_rfl)) (fun _ _ _ h => h) (Or.inl ⟨by rfl, ?_⟩) ?_ ?_
                      rotate_left
                      ·
                       intro w'
                       go_simp
                       with_reducible rfl
                      rotate_left
                      ·
                       simp only [Act.put, List.setIfInBounds_toArray, List.set_cons_zero, List.set_cons_succ, i64_w, i32_w]
                       rfl
                      refine pure_ (i := 3) (N := some 151) (v := ?_) (a' := ?_) #[true, true, true, true, false, false, false, false, false, false, false, false, false, false, false, false, false, false, false, false] rfl rfl (any_of HT_.out (by kernel_rfl)) (fun _ _ _ h => h) (Or.inl ⟨by rfl, ?_⟩) ?_ ?_
                      rotate_left
                      ·
                       intro w'
                       go_simp
                       with_reducible rfl
                      rotate_left
                      ·
                       simp only [Act.put, List.setIfInBounds_toArray, List.set_cons_zero, List.set_cons_succ, i64_w, i32_w]
                       rfl
                      refine pure_ (i := 4) (N := some 152) (v := ?_) (a' := ?_) #[true, true, true, true, true, false, false, false, false, false, false, false, false, false, false, false, false, false, false, false] rfl rfl (any_of HT_.out (by kernel_rfl)) (fun _ _ _ h => h) (Or.inl ⟨by rfl, ?_⟩) ?_ ?_
                      rotate_left
                      ·
                       intro w'
                       go_simp
                       with_reducible rfl
                      rotate_left
                      ·
                       simp only [Act.put, List.setIfInBounds_toArray, List.set_cons_zero, List.set_cons_succ, i64_w, i32_w]
                       rfl
                      refine pure_ (i := 5) (N := some 153) (v := ?_) (a' := ?_) #[true, true, true, true, true, true, false, false, false, false, false, false, false, false, false, false, false, false, false, false] rfl rfl (any_of HT_.out (by kernel_rfl)) (fun _ _ _ h => h) (Or.inl ⟨by rfl, ?_⟩) ?_ ?_
                      rotate_left
                      ·
                       intro w'
                       go_simp
                       with_reducible rfl
                      rotate_left
                      ·
                       simp only [Act.put, List.setIfInBounds_toArray, List.set_cons_zero, List.set_cons_succ, i64_w, i32_w]
                       rfl
                      refine pure_ (i := 9) (N := some 157) (v := ?_) (a' := ?_) #[true, true, true, true, true, true, false, false, false, true, false, false, false, false, false, false, false, false, false, false] rfl rfl (any_of HT_.out (by kernel_rfl)) (fun _ _ _ h => h) (Or.inl ⟨by rfl, ?_⟩) ?_ ?_
                      rotate_left
                      ·
                       intro w'
                       go_simp
                       with_reducible rfl
                      rotate_left
                      ·
                       simp only [Act.put, List.setIfInBounds_toArray, List.set_cons_zero, List.set_cons_succ, i64_w, i32_w]
                       rfl
                      refine pure_ (i := 10) (N := some 158) (v := ?_) (a' := ?_) #[true, true, true, true, true, true, false, false, false, true, true, false, false, false, false, false, false, false, false, false] rfl rfl (any_of HT_.out (by kernel_rfl)) (fun _ _ _ h => h) (Or.inl ⟨by rfl, ?_⟩) ?_ ?_
                      rotate_left
                      ·
                       intro w'
                       go_simp
                       with_reducible rfl
                      rotate_left
                      ·
                       simp only [Act.put, List.setIfInBounds_toArray, List.set_cons_zero, List.set_cons_succ, i64_w, i32_w]
                       rfl
                      refine pure_ (i := 11) (N := some 159) (v := ?_) (a' := ?_) #[true, true, true, true, true, true, false, false, false, true, true, true, false, false, false, false, false, false, false, false] rfl rfl (any_of HT_.out (by kernel_rfl)) (fun _ _ _ h => h) (Or.inl ⟨by rfl, ?_⟩) ?_ ?_
                      rotate_left
                      ·
                       intro w'
                       go_simp
                       with_reducible rfl
                      rotate_left
                      ·
                       simp only [Act.put, List.setIfInBounds_toArray, List.set_cons_zero, List.set_cons_succ, i64_w, i32_w]
                       rfl
                      refine pure_ (i := 15) (N := some 163) (v := ?_) (a' := ?_) #[true, true, true, true, true, true, false, false, false, true, true, true, false, false, false, true, false, false, false, false] rfl rfl (any_of HT_.out (by kernel_rfl)) (fun _ _ _ h => h) (Or.inl ⟨by rfl, ?_⟩) ?_ ?_
                      rotate_left
                      ·
                       intro w'
                       go_simp
                       with_reducible rfl
                      rotate_left
                      ·
                       simp only [Act.put, List.setIfInBounds_toArray, List.set_cons_zero, List.set_cons_succ, i64_w, i32_w]
                       rfl
                      refine take_ (i := 6) (N := some 154) (v := ?_) (a' := ?_) #[true, true, true, true, true, true, true, false, false, true, true, true, false, false, false, true, false, false, false, false] rfl rfl (take_ofW HT_.out HW_.out (by kernel_rfl)) (fun _ _ _ h => h) (Or.inl ⟨by rfl, ?_⟩) hHeld ?_ ?_
                      rotate_left
                      ·
                       rintro w' ⟨s0, s1⟩
                       go_simp
                       with_reducible rfl
                      rotate_left
                      ·
                       simp only [Act.put, List.setIfInBounds_toArray, List.set_cons_zero, List.set_cons_succ, i64_w, i32_w]
                       rfl
                      refine pure_ (i := 7) (N := some 155) (v := ?_) (a' := ?_) #[true, true, true, true, true, true, true, true, false, true, true, true, false, false, false, true, false, false, false, false] rfl rfl (any_of HT_.out (by kernel_rfl)) (fun _ _ _ h => h) (Or.inl ⟨by rfl, ?_⟩) ?_ ?_
                      rotate_left
                      ·
                       intro w'
                       go_simp
                       with_reducible rfl
                      rotate_left
                      ·
                       simp only [Act.put, List.setIfInBounds_toArray, List.set_cons_zero, List.set_cons_succ, i64_w, i32_w]
                       rfl
                      refine pure_ (i := 8) (N := some 156) (v := ?_) (a' := ?_) #[true, true, true, true, true, true, true, true, true, true, true, true, false, false, false, true, false, false, false, false] rfl rfl (any_of HT_.out (by kernel_rfl)) (fun _ _ _ h => h) (Or.inl ⟨by rfl, ?_⟩) ?_ ?_
                      rotate_left
                      ·
                       intro w'
                       go_simp
                       with_reducible rfl
                      rotate_left
                      ·
                       simp only [Act.put, List.setIfInBounds_toArray, List.set_cons_zero, List.set_cons_succ, i64_w, i32_w]
                       rfl
                      refine take_ (i := 12) (N := some 160) (v := ?_) (a' := ?_) #[true, true, true, true, true, true, true, true, true, true, true, true, true, false, false, true, false, false, false, false] rfl rfl (take_ofW HT_.out HW_.out (by kernel_rfl)) (fun _ _ _ h => h) (Or.inl ⟨by rfl, ?_⟩) hHeld ?_ ?_
                      rotate_left
                      ·
                       rintro w' ⟨s0, s1⟩
                       go_simp
                       with_reducible rfl
                      rotate_left
                      ·
                       simp only [Act.put, List.setIfInBounds_toArray, List.set_cons_zero, List.set_cons_succ, i64_w, i32_w]
                       rfl
                      refine pure_ (i := 13) (N := some 161) (v := ?_) (a' := ?_) #[true, true, true, true, true, true, true, true, true, true, true, true, true, true, false, true, false, false, false, false] rfl rfl (any_of HT_.out (by kernel_rfl)) (fun _ _ _ h => h) (Or.inl ⟨by rfl, ?_⟩) ?_ ?_
                      rotate_left
                      ·
                       intro w'
                       go_simp
                       with_reducible rfl
                      rotate_left
                      ·
                       simp only [Act.put, List.setIfInBounds_toArray, List.set_cons_zero, List.set_cons_succ, i64_w, i32_w]
                       rfl
                      refine pure_ (i := 14) (N := some 162) (v := ?_) (a' := ?_) #[true, true, true, true, true, true, true, true, true, true, true, true, true, true, true, true, false, false, false, false] rfl rfl (any_of HT_.out (by kernel_rfl)) (fun _ _ _ h => h) (Or.inl ⟨by rfl, ?_⟩) ?_ ?_
                      rotate_left
                      ·
                       intro w'
                       go_simp
                       with_reducible rfl
                      rotate_left
                      ·
                       simp only [Act.put, List.setIfInBounds_toArray, List.set_cons_zero, List.set_cons_succ, i64_w, i32_w]
                       rfl
                      refine pure_ (i := 16) (N := some 164) (v := ?_) (a' := ?_) #[true, true, true, true, true, true, true, true, true, true, true, true, true, true, true, true, true, false, false, false] rfl rfl (any_of HT_.out (by kernel_rfl)) (fun _ _ _ h => h) (Or.inl ⟨by rfl, ?_⟩) ?_ ?_
                      rotate_left
                      ·
                       intro w'
                       go_simp
                       with_reducible rfl
                      rotate_left
                      ·
                       simp only [Act.put, List.setIfInBounds_toArray, List.set_cons_zero, List.set_cons_succ, i64_w, i32_w]
                       rfl
                      refine pure_ (i := 17) (N := some 165) (v := ?_) (a' := ?_) #[true, true, true, true, true, true, true, true, true, true, true, true, true, true, true, true, true, true, false, false] rfl rfl (any_of HT_.out (by kernel_rfl)) (fun _ _ _ h => h) (Or.inl ⟨by rfl, ?_⟩) ?_ ?_
                      rotate_left
                      ·
                       intro w'
                       go_simp
                       with_reducible rfl
                      rotate_left
                      ·
                       simp only [Act.put, List.setIfInBounds_toArray, List.set_cons_zero, List.set_cons_succ, i64_w, i32_w]
                       rfl
                      refine pure_ (i := 18) (N := some 166) (v := ?_) (a' := ?_) #[true, true, true, true, true, true, true, true, true, true, true, true, true, true, true, true, true, true, true, false] rfl rfl (any_of HT_.out (by kernel_rfl)) (fun _ _ _ h => h) (Or.inl ⟨by rfl, ?_⟩) ?_ ?_
                      rotate_left
                      ·
                       intro w'
                       go_simp
                       with_reducible rfl
                      rotate_left
                      ·
                       simp only [Act.put, List.setIfInBounds_toArray, List.set_cons_zero, List.set_cons_succ, i64_w, i32_w]
                       rfl
                      refine last_ (i := 19) (N := none) #[true, true, true, true, true, true, true, true, true, true, true, true, true, true, true, true, true, true, true, true] rfl rfl (one_of HT_.out (by kernel_rfl)) (by decide) (fun K hK => ?_)
                      refine skip_ (w1 := ?_) (by rfl) rfl ?_ ?_
                      rotate_left
                      ·
                       go_simp
                       rfl
                      refine hK.out _ _ ?_
                      clear hK K
                      refine done_ (done_of HT_.out (by kernel_rfl)) ?_
                      try go_wp2
                      (try simp only [← hl17_2])
                      go_roundg k2
                      case measure => have := HK1.out; have := HK2.out; omega
                      case rel => exact ⟨(y210), (ji70), (by first | rfl | (simp; done) | (simp only [← hji70] <;> (first | rfl | simp)) | (simp [*]; done)), H', ⟨by have := HK1.out; have := HK2.out; omega⟩, ⟨by (try simp only [hl17_2]); (with_reducible repeat (first | apply Kd.R_alloc | apply Kd.R_drewN | apply Kd.R_drew)); exact Kd.R_mono (Kd.R_far (p := ⟨go79, (x145_2 : Int).toNat, none⟩) (Kd.R_mono HO_8.out (fun k_ hk => (⟨hk, fun e_ => hk.2 (by rw [e_]; rfl)⟩ : _ ∧ k_ ≠ go79))) (fun _ hk => hk.2) (.int .u32 ((ji77) % 4294967296))) (fun _ hk => ⟨hk.1.1, hk.1.2⟩)⟩, ⟨by (try simp only [hl17_2]); (with_reducible repeat (first | apply Kd.R_alloc | apply Kd.R_drewN | apply Kd.R_drew)); exact Kd.R_mono (Kd.R_far (p := ⟨go79, (x145_2 : Int).toNat, none⟩) (Kd.R_mono HO_10.out (fun k_ hk => (⟨hk, fun e_ => hk.2 (by rw [e_]; rfl)⟩ : _ ∧ k_ ≠ go79))) (fun _ hk => hk.2) (.int .u32 ((ji77) % 4294967296))) (fun _ hk => ⟨hk.1.1, hk.1.2⟩)⟩, ⟨by (try simp only [hl17_2]); (with_reducible repeat (first | apply Kd.R_alloc | apply Kd.R_drewN | apply Kd.R_drew)); exact HQ82.out⟩, ⟨by repeat (first | (with_reducible first | exact HB.out | apply below_alloc | apply pw_below_drewN | apply below_drew1 | refine below_set ?_ GB79.out) | exact HB.out)⟩⟩
                     ·
                      rw [if_neg c78] at H
                      exact absurd H (by simp)
                    ·
                     rw [if_neg c76] at H
                     exact absurd H (by simp)
                   ·
                    rw [if_neg c74] at H
                    exact absurd H (by simp)
                  ·
                   rw [if_neg c73] at H
                   exact absurd H (by simp)
                 ·
                  rw [if_neg c72] at H
                  exact absurd H (by simp)
                ·
                 rw [if_neg c71] at H
                 exact absurd H (by simp)
               ·
                rw [if_neg c69] at H
                have c69b0 : decide (x145_2 < (y205.length : Int)) = false := decide_eq_false c69
                (try (have c69b0h := c69b0; simp only [hl17_2] at c69b0h))
                clear c69
                replace H := Option.bind_eq_some_iff.mp H
                obtain ⟨t211, A830, H⟩ := H
                replace H : ((bignat_trim.f k2 x17_2).bind fun t214 => (some (t211, t214))) = some (r1, r2) := H
                have A83 := Aside0.mk A830
                clear A830
                replace H := Option.bind_eq_some_iff.mp H
                obtain ⟨t214, A840, H⟩ := H
                replace H : (some (t211, t214)) = some (r1, r2) := H
                have A84 := Aside0.mk A840
                clear A840
                simp only [Option.some.injEq, Prod.mk.injEq] at H
                obtain ⟨rfl, rfl⟩ := H
                obtain ⟨Ao85, co85, eo85⟩ := Kd.R_slice HO_10.out
                subst eo85
                go_wp2_with (first | ((with_reducible refine gate_callee (f := 71) rfl ?_); refine goesL_ (some 169) rfl rfl Tryd.func71 (by kernel_rfl) rfl #[.slice Ao85 x10_1.length co85] rfl (by (try simp only [List.map_toArray, List.map_cons, List.map_nil]); first | done | rfl | (simp only [List.length_drop, List.length_take]; rfl) | (go_simp; done) | (go_simp; rfl) | (go_simp; (try simp only [IntKind.wrap_u8, IntKind.wrap_u32, IntKind.wrap_u64]); omega)) ?_; (with_reducible refine (bignat_trimO.calls k2 (fun k_ => some k_ = (.slice Ao85 x10_1.length co85 : Value).ownBlock) (.slice Ao85 x10_1.length co85) x10_1 t211 w _ ?side1 ?side2 A83.out).mono ?_); (case side1 => repeat (first | (with_reducible first | exact HB.out | apply below_alloc | apply pw_below_drewN | apply below_drew1) | exact HB.out)); (case side2 => exact Kd.R_tight rfl HO_10.out); rintro e w86 ⟨v212, rfl, ho0, hb, hkp⟩; refine ⟨_, rfl, ?_⟩; have n0_ := Aside0.mk (Kd.R_mono (ok' := fun k_ => some k_ ≠ (.slice Ao68 x17_2.length co68 : Value).ownBlock ∧ some k_ ≠ (v212 : Value).ownBlock) (Kd.R_keptB (HO_8.out) hkp (fun k_ hk_ hs_ => (hk_.1) hs_)) (fun k_ hk_ => ⟨hk_.1.2, fun e_ => Or.elim (ho0.1 k_ e_.symm) (fun hs_ => hk_.2.1 hs_) (fun hn_ => Nat.not_le.2 hk_.2.2 hn_)⟩)); have n1_ := Aside0.mk (Kd.R_mono (ok' := fun k_ => some k_ ≠ (v179 : Value).ownBlock ∧ some k_ ≠ (v212 : Value).ownBlock) (Kd.R_keptB (HO_17.out) hkp (fun k_ hk_ hs_ => (hk_.2) hs_)) (fun k_ hk_ => ⟨hk_.1.1, fun e_ => Or.elim (ho0.1 k_ e_.symm) (fun hs_ => hk_.2.1 hs_) (fun hn_ => Nat.not_le.2 hk_.2.2 hn_)⟩)); have n2_ := Aside0.mk (Kd.R_mono (ok' := fun k_ => some k_ ≠ (v179 : Value).ownBlock ∧ some k_ ≠ (.slice Ao68 x17_2.length co68 : Value).ownBlock) ho0 (fun k_ hk_ => ⟨Or.elim hk_ (fun hs_ => fun e_ => (((HO_8.out).1 k_ e_.symm).1) hs_) (fun hn_ => (Kd.fresh' (Kd.R_lt (by (with_reducible repeat (first | apply Kd.R_alloc | apply Kd.R_drewN | apply Kd.R_drew)); exact HO_8.out)) k_ hn_)), Or.elim hk_ (fun hs_ => fun e_ => (((HO_17.out).1 k_ e_.symm).2) hs_) (fun hn_ => (Kd.fresh' (Kd.R_lt (by (with_reducible repeat (first | apply Kd.R_alloc | apply Kd.R_drewN | apply Kd.R_drew)); exact HO_17.out)) k_ hn_))⟩)); have n3_ := Aside0.mk (hb); clear HO_8; clear HO_17; clear HB; clear HO_10; have HO_8 := n0_; have HO_17 := n1_; have HO213 := n2_; have HB := n3_; clear n0_ n1_ n2_ n3_; (try clear hb); (try clear hkp); (try clear ho0)) | ((with_reducible refine gate_callee (f := 71) rfl ?_); refine goesL_ (some 171) rfl rfl Tryd.func71 (by kernel_rfl) rfl #[.slice Ao68 x17_2.length co68] rfl (by (try simp only [List.map_toArray, List.map_cons, List.map_nil]); first | done | rfl | (simp only [List.length_drop, List.length_take]; rfl) | (go_simp; done) | (go_simp; rfl) | (go_simp; (try simp only [IntKind.wrap_u8, IntKind.wrap_u32, IntKind.wrap_u64]); omega)) ?_; (with_reducible refine (bignat_trimO.calls k2 (fun k_ => some k_ = (.slice Ao68 x17_2.length co68 : Value).ownBlock) (.slice Ao68 x17_2.length co68) x17_2 t214 w _ ?side1 ?side2 A84.out).mono ?_); (case side1 => repeat (first | (with_reducible first | exact HB.out | apply below_alloc | apply pw_below_drewN | apply below_drew1) | exact HB.out)); (case side2 => exact Kd.R_tight rfl HO_17.out); rintro e w87 ⟨v215, rfl, ho0, hb, hkp⟩; refine ⟨_, rfl, ?_⟩; have n0_ := Aside0.mk (Kd.R_mono (ok' := fun k_ => some k_ ≠ (v212 : Value).ownBlock ∧ some k_ ≠ (v215 : Value).ownBlock) (Kd.R_keptB (HO_8.out) hkp (fun k_ hk_ hs_ => (hk_.1) hs_)) (fun k_ hk_ => ⟨hk_.1.2, fun e_ => Or.elim (ho0.1 k_ e_.symm) (fun hs_ => hk_.2.1 hs_) (fun hn_ => Nat.not_le.2 hk_.2.2 hn_)⟩)); have n1_ := Aside0.mk (Kd.R_mono (ok' := fun k_ => some k_ ≠ (v179 : Value).ownBlock ∧ some k_ ≠ (v215 : Value).ownBlock) (Kd.R_keptB (HO213.out) hkp (fun k_ hk_ hs_ => (hk_.2) hs_)) (fun k_ hk_ => ⟨hk_.1.1, fun e_ => Or.elim (ho0.1 k_ e_.symm) (fun hs_ => hk_.2.1 hs_) (fun hn_ => Nat.not_le.2 hk_.2.2 hn_)⟩)); have n2_ := Aside0.mk (Kd.R_mono (ok' := fun k_ => some k_ ≠ (v179 : Value).ownBlock ∧ some k_ ≠ (v212 : Value).ownBlock) ho0 (fun k_ hk_ => ⟨Or.elim hk_ (fun hs_ => fun e_ => (((HO_8.out).1 k_ e_.symm).1) hs_) (fun hn_ => (Kd.fresh' (Kd.R_lt (by (with_reducible repeat (first | apply Kd.R_alloc | apply Kd.R_drewN | apply Kd.R_drew)); exact HO_8.out)) k_ hn_)), Or.elim hk_ (fun hs_ => fun e_ => (((HO213.out).1 k_ e_.symm).2) hs_) (fun hn_ => (Kd.fresh' (Kd.R_lt (by (with_reducible repeat (first | apply Kd.R_alloc | apply Kd.R_drewN | apply Kd.R_drew)); exact HO213.out)) k_ hn_))⟩)); have n3_ := Aside0.mk (hb); clear HO_8; clear HO213; clear HB; clear HO_17; have HO_8 := n0_; have HO213 := n1_; have HO216 := n2_; have HB := n3_; clear n0_ n1_ n2_ n3_; (try clear hb); (try clear hkp); (try clear ho0)))
                go_ret2
                exact ⟨_, _, by first | rfl | (simp [errW_none, errW_some] <;> rfl) | (simp only [← hji3, ← hji9, ← hji13]; first | rfl | (simp [errW_none, errW_some] <;> rfl)) | (simp [*, errW_none, errW_some] <;> rfl), by (with_reducible repeat (first | apply Kd.R_alloc | apply Kd.R_drewN | apply Kd.R_drew)); exact Kd.R_mono HO213.out (fun _ hk => hk.2), by (with_reducible repeat (first | apply Kd.R_alloc | apply Kd.R_drewN | apply Kd.R_drew)); exact Kd.R_mono HO216.out (fun _ hk => hk.2), by repeat (first | (with_reducible first | exact HB.out | apply below_alloc | apply pw_below_drewN | apply below_drew1) | exact HB.out)⟩
            ·
             rw [if_neg c65] at H
             exact absurd H (by simp)
           ·
            rw [if_neg c64] at H
            exact absurd H (by simp)
       ·
        rw [if_neg c15] at H
        exact absurd H (by simp)
      ·
       rw [if_neg c14] at H
       exact absurd H (by simp)
     ·
      rw [if_neg c12] at H
      exact absurd H (by simp)
    ·
     rw [if_neg c11] at H
     exact absurd H (by simp)
   ·
    rw [if_neg c10] at H
    exact absurd H (by simp)
  ·
   rw [if_neg c5] at H
   exact absurd H (by simp)
 ·
  rw [if_neg c4] at H
  exact absurd H (by simp)

end Go.Proofs.YtoeldfopjalpkaaDoor.Q

