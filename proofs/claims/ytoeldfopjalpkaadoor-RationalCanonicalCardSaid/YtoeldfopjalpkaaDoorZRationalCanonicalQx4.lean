/- Lemmas for the proof of one law of this seat (Qx4). -/
import Derived.Test.YtoeldfopjalpkaaDoorZRationalCanonicalQx0
import Derived.Test.YtoeldfopjalpkaaDoorZRationalCanonicalQx1
import Derived.Test.YtoeldfopjalpkaaDoorZRationalCanonicalQx2
import Derived.Test.YtoeldfopjalpkaaDoorZRationalCanonicalQx3
import Derived.Test.YtoeldfopjalpkaaDoorZRationalCanonicalZip
namespace Go.Proofs.YtoeldfopjalpkaaDoor.Q
open Go.RowKit Go.Proofs.YtoeldfopjalpkaaDoorW.PrintWords Go.Proofs.YtoeldfopjalpkaaDoorW.PrintLast Go.Proofs.YtoeldfopjalpkaaDoorW.PrintMore
attribute [local go_sem] max2_int min2_int max_two min_two max_three min_three max_four min_four   -- for this text's walks alone
set_option linter.unusedVariables false
set_option linter.unusedSimpArgs false

/-- A part of a row of the call's own: what is in front of it, what is behind it. -/
def PT (e : Nat) (w : World) (base : Nat) (ok : Nat → Prop) (g L co lo m : Nat) (pre suf xs : List Int) : Prop :=
 Kd.R (Kd.int .u32) e w base ok (.slice (some ⟨g, 0, none⟩) L co) (pre ++ xs ++ suf) ∧ pre.length = lo ∧ xs.length = m
section
variable {e : Nat} {w : World} {base : Nat} {ok : Nat → Prop} {g L co lo m : Nat} {pre suf xs : List Int}
theorem PT_drew (h : PT e w base ok g L co lo m pre suf xs) : PT e w.drew base ok g L co lo m pre suf xs := ⟨Kd.R_drew h.1, h.2⟩
theorem PT_drewN (h : PT e w base ok g L co lo m pre suf xs) (n : Nat) : PT e (w.drewN n) base ok g L co lo m pre suf xs := ⟨Kd.R_drewN h.1 n, h.2⟩
theorem PT_alloc (h : PT e w base ok g L co lo m pre suf xs) (o : Obj) : PT e (w.alloc o) base ok g L co lo m pre suf xs := ⟨Kd.R_alloc h.1 o, h.2⟩
theorem PT_rd {pre suf xs : List Int} {i : Int} (h0 : 0 ≤ i) (h1 : i < (xs.length : Int)) : rd (pre ++ xs ++ suf) ((pre.length : Int) + i) = rd xs i := by
 unfold rd
 have e : ((pre.length : Int) + i).toNat = pre.length + i.toNat := by omega
 rw [e, List.getD_eq_getElem?_getD, List.getD_eq_getElem?_getD, List.append_assoc, List.getElem?_append_right (by omega), List.getElem?_append_left (by omega)]
 congr 2
 omega
theorem PT_cell (h : PT e w base ok g L co lo m pre suf xs) (i : Int) (h0 : 0 ≤ i) (h1 : i < (m : Int)) : w.cell? ⟨g, lo + i.toNat, none⟩ = some (.int .u32 (rd xs i)) ∧ w.frozen? ⟨g, lo + i.toNat, none⟩ = false := by
 obtain ⟨h, rfl, rfl⟩ := h
 have hL := (Kd.R_reads' h).1
 simp only [List.length_append] at hL
 have := Kd.R_celln (0 : Int) h ((pre.length : Int) + i) (by omega) (by omega)
 rw [show ((pre.length : Int) + i).toNat = pre.length + i.toNat by omega] at this
 refine ⟨this.1.trans ?_, this.2⟩
 show some (Value.int .u32 (rd (pre ++ xs ++ suf) ((pre.length : Int) + i))) = _
 rw [PT_rd h0 h1]
theorem PT_put (h : PT e w base ok g L co lo m pre suf xs) (i : Int) (x : Int) (h0 : 0 ≤ i) (h1 : i < (m : Int)) : PT e (w.setCell ⟨g, lo + i.toNat, none⟩ (.int .u32 x)) base ok g L co lo m pre suf (xs.set i.toNat x) ∧ w.grownBy (w.setCell ⟨g, lo + i.toNat, none⟩ (.int .u32 x)) (some g) := by
 obtain ⟨h, rfl, rfl⟩ := h
 have := Kd.R_putg h ((pre.length : Int) + i) x
 rw [show ((pre.length : Int) + i).toNat = pre.length + i.toNat by omega] at this
 refine ⟨⟨?_, rfl, by rw [List.length_set]⟩, this.2⟩
 have e : (pre ++ xs ++ suf).set (pre.length + i.toNat) x = pre ++ xs.set i.toNat x ++ suf := by
  rw [List.append_assoc, List.set_append_right _ _ (by omega), List.append_assoc, List.set_append_left _ _ (by omega)]
  congr 3
  omega
 rw [e] at this
 exact this.1
theorem PT_ok (h : PT e w base ok g L co lo m pre suf xs) (k : Nat) (hk : some g = some k) : ok k := h.1.1 k hk
end

/-- The parts of a row that a function is handed, put back. -/
def bignat_addBack.fp (k : Nat) (l0 : List Int) (lo hi : Int) (l1 : List Int) : Option (List Int) := (bignat_addBack.f k ((l0.take hi.toNat).drop lo.toNat) l1).map fun r => l0.take lo.toNat ++ r ++ l0.drop hi.toNat
def bignat_subtractScaled.fp (k : Nat) (l0 : List Int) (lo hi : Int) (l1 : List Int) (a2 : Int) : Option (Bool × List Int) := (bignat_subtractScaled.f k ((l0.take hi.toNat).drop lo.toNat) l1 a2).map fun p => (p.1, l0.take lo.toNat ++ p.2 ++ l0.drop hi.toNat)
theorem bignat_addBack.monop : ∀ a0 a1 a2 a3 k, LeO (bignat_addBack.fp k a0 a1 a2 a3) (bignat_addBack.fp (k + 1) a0 a1 a2 a3) := fun _ _ _ _ _ => LeO.map _ (bignat_addBack.mono _ _ _)
theorem bignat_subtractScaled.monop : ∀ a0 a1 a2 a3 a4 k, LeO (bignat_subtractScaled.fp k a0 a1 a2 a3 a4) (bignat_subtractScaled.fp (k + 1) a0 a1 a2 a3 a4) := fun _ _ _ _ _ _ => LeO.map _ (bignat_subtractScaled.mono _ _ _ _)
theorem bignat_addBack.nil_none (k : Nat) (l1 : List Int) : bignat_addBack.f k [] l1 = none := by
 unfold bignat_addBack.f
 cases k with
 | zero => rfl
 | succ k =>
  simp only [bignat_addBack.l0]
  by_cases h : (0 : Int) < (l1.length : Int)
  ·
   rw [if_pos h, if_pos (by omega), if_pos h, if_neg (by simp)]
  rw [if_neg h, if_neg (by simp [wrap64])]
theorem bignat_subtractScaled.nil_none (k : Nat) (l1 : List Int) (a2 : Int) : bignat_subtractScaled.f k [] l1 a2 = none := by
 unfold bignat_subtractScaled.f
 cases k with
 | zero => rfl
 | succ k =>
  simp only [bignat_subtractScaled.l0]
  by_cases h : (0 : Int) < (l1.length : Int)
  ·
   rw [if_pos h, if_pos (by omega), if_pos h, if_neg (by simp)]
  rw [if_neg h, if_neg (by simp [wrap64])]

set_option maxHeartbeats 8000000 in
set_option maxRecDepth 100000 in
theorem bignat_addBack.part (k : Nat) (P0_ : Nat → Prop) (ad : Addr) (L co : Nat) (l0 : List Int) (lo' hi' : Int) (A' : Option Addr) (m' c' : Nat) (ys : List Int) (hA : A' = (if co = lo'.toNat then (some ad) else ((some ad) : Option Addr).map (·.add (lo'.toNat * 1)))) (hm : m' = hi'.toNat - lo'.toNat) (hy : ys = (l0.take hi'.toNat).drop lo'.toNat) (hL : hi'.toNat ≤ l0.length) (hM : lo'.toNat ≤ hi'.toNat) (A1 : Option Addr) (c1 : Nat) (l1 : List Int) (r : List Int) (w0 w : World) (hB : Below w0.heap.size w0 w) (ho0 : Kd.R (Kd.int .u32) 37 w w0.heap.size P0_ (.slice (some ad) L co) l0) (hr1 : ∀ W_, Kept w W_ (fun k_ => P0_ k_) → Kd.C (Kd.int .u32) W_ A1 l1.length l1) (hc1 : l1.length ≤ c1) (h : bignat_addBack.fp k l0 lo' hi' l1 = some r) :
 Calls Tryd.prog 105 #[.slice A' m' c', .slice A1 l1.length c1] w fun e w' => e = .returned (.tuple #[]) ∧ Kd.R (Kd.int .u32) 37 w' w0.heap.size (fun k_ => (P0_ k_ ∨ w.heap.size ≤ k_)) (.slice (some ad) L co) r ∧ Below w0.heap.size w0 w' ∧ Kept w w' (fun k_ => P0_ k_) := by
 obtain rfl : ys.length = m' := by rw [hm, hy, List.length_drop, List.length_take]; omega
 unfold bignat_addBack.fp at h
 rw [← hy] at h
 obtain ⟨p_, hp_, hr_⟩ := Option.map_eq_some_iff.1 h
 clear h
 have hpos : 0 < ys.length := by
  cases ys with
  | nil => exact absurd hp_ (by rw [bignat_addBack.nil_none]; simp)
  | cons y ys => simp
 obtain ⟨g, co_, eo, gb, gl, cl, HG⟩ := Kd.R_form ho0 (by omega)
 injection eo with ea en ec
 injection ea with ea
 subst ea
 subst ec
 subst en
 have hroom := (Kd.R_reads' ho0).2.1
 rw [if_neg (by omega), Option.map_some, add_plain, Nat.mul_one] at hA
 subst hA
 have hsplit : l0 = l0.take lo'.toNat ++ ys ++ l0.drop hi'.toNat := by
  rw [hy, List.drop_take, List.append_assoc]
  conv => lhs; rw [← List.take_append_drop lo'.toNat l0]
  congr 1
  conv => lhs; rw [← List.take_append_drop (hi'.toNat - lo'.toNat) (l0.drop lo'.toNat)]
  rw [List.drop_drop, show lo'.toNat + (hi'.toNat - lo'.toNat) = hi'.toNat by omega]
 have hpre : (l0.take lo'.toNat).length = lo'.toNat := by rw [List.length_take]; omega
 have HP0 : PT 37 w w0.heap.size (fun k_ => (P0_ k_ ∨ w.heap.size ≤ k_)) g l0.length co lo'.toNat ys.length (l0.take lo'.toNat) (l0.drop hi'.toNat) ys := ⟨by rw [← hsplit]; exact Kd.R_mono ho0 (fun k_ hk => (.inl hk)), hpre, rfl⟩
 generalize hlo : lo'.toNat = lo at *
 generalize hmm : ys.length = m at *
 generalize l0.take lo = pre at *
 generalize l0.drop hi'.toNat = suf at *
 generalize hLL : l0.length = L at *
 clear hsplit hpre ho0 hy hm hL hM hroom HG gl cl
 have HMg := zA (HP0.1.1 g rfl)
 have GB := zA gb
 clear gb
 subst hr_
 have HO0 := zA HP0
 have HR1 := zA hr1
 have HC1 := zA hc1
 clear hr1 hc1
 have HK := zA (Kept.refl w (fun k_ => P0_ k_))
 have HW0 := zA hB.size
 have HB := zA hB
 clear hB
 have H := hp_
 unfold bignat_addBack.f at H
 clear hp_
 have H' := zA H
 clear H
 clear HP0 hlo hmm hLL hpos
 go_enter Tryd.func105, Tryd.ntmps105
 go_wp2
 go_loopg [4, 9] k (fun kq v4 v9 w' => ∃ (x0_1 : List Int) (x4_1 : Int) (x9_1 : Int), v4 = .int .u64 x4_1 ∧ v9 = .int .i64 x9_1 ∧ Aside0 (bignat_addBack.l0 kq x0_1 x4_1 l1 (l1.length : Int) x9_1 = some p_) ∧ Aside0 (kq ≤ k) ∧ Aside0 (PT 37 w' w0.heap.size (fun k_ => (P0_ k_ ∨ w.heap.size ≤ k_)) g L co lo m pre suf x0_1) ∧ Aside0 (Kept w w' (fun k_ => P0_ k_)) ∧ Aside0 (Below w0.heap.size w0 w'))
 case atStart => exact ⟨(ys), (0), (0), zT, zT, H', ⟨Nat.le_refl _⟩, ⟨by (with_reducible repeat (first | apply PT_alloc | apply PT_drewN | apply PT_drew)); exact HO0.out⟩, ⟨zK⟩, ⟨zH⟩⟩
 case round =>
  clear H'
  try clear c1
  try clear p2
  obtain ⟨x0_1, x4_1, x9_1, rfl, rfl, HA, HK1, HO_0, HK, HB⟩ := hrel
  have hlen := HO_0.out.2.2
  cases gk with
  | zero => exact absurd HA.out (by simp [bignat_addBack.l0])
  | succ k1 =>
   have H := HA.out
   clear HA
   simp only [bignat_addBack.l0, hlen] at H
   clear hlen
   by_cases c3 : x9_1 < (l1.length : Int)
   ·
    rw [if_pos c3] at H
    have c3b0 := decide_eq_true c3
    clear c3
    by_cases c4 : 0 ≤ x9_1
    ·
     rw [if_pos c4] at H
     have c4b0 := decide_eq_true c4
     clear c4
     by_cases c5 : x9_1 < (l1.length : Int)
     ·
      rw [if_pos c5] at H
      have c5b0 := decide_eq_true c5
      clear c5
      by_cases c6 : x9_1 < (m : Int)
      ·
       rw [if_pos c6] at H
       have c6b0 := decide_eq_true c6
       clear c6
       obtain ⟨y182, hy182⟩ : ∃ y_ : List Int, y_ = (x0_1.set (x9_1 : Int).toNat ((IntKind.u64.wrap (x4_1 + (IntKind.u64.wrap ((IntKind.u64.wrap (rd x0_1 x9_1)) + (IntKind.u64.wrap (rd l1 x9_1)))))) % 4294967296)) := ⟨_, rfl⟩
       replace H : (bignat_addBack.l0 k1 y182 ((IntKind.u64.wrap (x4_1 + (IntKind.u64.wrap ((IntKind.u64.wrap (rd x0_1 x9_1)) + (IntKind.u64.wrap (rd l1 x9_1)))))) / 4294967296) l1 (l1.length : Int) (wrap64 (x9_1 + 1))) = some p_ := by first | (rw [hy182]; with_reducible exact H) | (have H2_ := (Option.bind_some _ _).symm.trans H; rw [hy182]; with_reducible exact H2_) | (have H2_ := (Option.bind_some _ _).symm.trans H; with_reducible exact H2_) | with_reducible exact H | (rw [hy182]; exact H) | exact H
       have Ny182 := zA hy182
       clear hy182
       have H' := zA H
       clear H
       have p180 : 0 ≤ (x9_1 : Int) := zD
       have q180 : x9_1 < (l1.length : Int) := zD
       obtain ⟨ad180, e180, hx180_0⟩ := Kd.at_int (Kd.C_kept_now HR1.out HK.out) x9_1 p180 q180
       cases e180
       replace p180 := eq_true p180
       replace q180 := eq_true q180
       have p181 : 0 ≤ (x9_1 : Int) := zD
       have q181 : x9_1 < (m : Int) := zD
       have hx181_0 := (PT_cell HO_0.out x9_1 p181 q181).1
       replace p181 := eq_true p181
       replace q181 := eq_true q181
       have p7 : 0 ≤ (x9_1 : Int) := zD
       have q7 : (x9_1 : Int) < ((m : Int) : Int) := zD
       obtain ⟨hx7_0, hf7_0⟩ := PT_cell HO_0.out (x9_1 : Int) p7 q7
       replace p7 := eq_true p7
       replace q7 := eq_true q7
       obtain ⟨hy9_, hz9_⟩ := PT_cell HO_0.out (x9_1 : Int) zD zD
       have HP9 := PT_put HO_0.out (x9_1 : Int) ((IntKind.u64.wrap (x4_1 + (IntKind.u64.wrap ((IntKind.u64.wrap (rd x0_1 x9_1)) + (IntKind.u64.wrap (rd l1 x9_1)))))) % 4294967296) zD zD
       go_wp2_with (first | ((with_reducible refine gate_store (t := 37) (p := 28) rfl ?_); refine store_event (t := 37) (p := 28) (v := ?vo_w10) (w1 := (wr.setCell ⟨g, lo + (x9_1 : Int).toNat, none⟩ (.int .u32 ((IntKind.u64.wrap (x4_1 + (IntKind.u64.wrap ((IntKind.u64.wrap (rd x0_1 x9_1)) + (IntKind.u64.wrap (rd l1 x9_1)))))) % 4294967296)))) ?hg ?ho ?hn ?hr ?_; (case ho => rfl); (case hg => rfl); (case hn => rfl); (case hr => first | (go_simp; done) | (go_simp; rfl)); intro w10 hw; have hg : wr.grownBy w10 (some g) := (by rw [hw]; exact HP9.2); have hp_ : PT 37 w10 w0.heap.size (fun k_ => (P0_ k_ ∨ w.heap.size ≤ k_)) g L co lo m pre suf y182 := (by rw [hw, Ny182.out]; exact HP9.1); clear HP9; replace HB := zA ((by rw [hw]; exact below_set (HB.out) GB.out : Below w0.heap.size w0 w10)); replace HK := zA (Kept.of_grown (S := (fun k_ => P0_ k_)) hg zK (PT_ok HO_0.out)); replace HO_0 := zA (hp_); clear hg hw hp_))
       go_roundg k1
       case measure => have := HK1.out; omega
       case rel => exact ⟨(y182), ((IntKind.u64.wrap (x4_1 + (IntKind.u64.wrap ((IntKind.u64.wrap (rd x0_1 x9_1)) + (IntKind.u64.wrap (rd l1 x9_1)))))) / 4294967296), (wrap64 (x9_1 + 1)), zT, zT, H', ⟨by have := HK1.out; omega⟩, ⟨by (with_reducible repeat (first | apply PT_alloc | apply PT_drewN | apply PT_drew)); exact HO_0.out⟩, ⟨zK⟩, ⟨zH⟩⟩
      rw [if_neg c6] at H
      cases H
     rw [if_neg c5] at H
     cases H
    rw [if_neg c4] at H
    cases H
   rw [if_neg c3] at H
   have c3b0 := decide_eq_false c3
   clear c3
   obtain ⟨ji11, hji11⟩ : ∃ j_ : Int, (wrap64 ((m : Int) - 1)) = j_ := ⟨_, rfl⟩
   replace H : (if 0 ≤ (ji11) then (if (ji11) < (m : Int) then (some (x0_1.set ((ji11) : Int).toNat (((rd x0_1 (ji11)) + ((x4_1) % 4294967296)) % 4294967296))) else (none)) else (none)) = some p_ := by first | (rw [hji11] at H; exact H) | (simp only [hji11] at H ⊢; exact H)
   have hji11w : (IntKind.i64.wrap ((m : Int) - 1)) = ji11 := (i64_w _).trans hji11
   by_cases c12 : 0 ≤ (ji11)
   ·
    rw [if_pos c12] at H
    have c12b0 := decide_eq_true c12
    clear c12
    by_cases c13 : (ji11) < (m : Int)
    ·
     rw [if_pos c13] at H
     have c13b0 := decide_eq_true c13
     clear c13
     obtain ⟨y184, hy184⟩ : ∃ y_ : List Int, y_ = (x0_1.set ((ji11) : Int).toNat (((rd x0_1 (ji11)) + ((x4_1) % 4294967296)) % 4294967296)) := ⟨_, rfl⟩
     replace H : (some y184) = some p_ := by first | (rw [hy184]; with_reducible exact H) | (have H2_ := (Option.bind_some _ _).symm.trans H; rw [hy184]; with_reducible exact H2_) | (have H2_ := (Option.bind_some _ _).symm.trans H; with_reducible exact H2_) | with_reducible exact H | (rw [hy184]; exact H) | exact H
     have Ny184 := zA hy184
     clear hy184
     obtain rfl := Option.some.inj H
     have p183 : 0 ≤ ((ji11) : Int) := zD
     have q183 : (ji11) < (m : Int) := zD
     have hx183_0 := (PT_cell HO_0.out (ji11) p183 q183).1
     replace p183 := eq_true p183
     replace q183 := eq_true q183
     have p14 : 0 ≤ ((ji11) : Int) := zD
     have q14 : ((ji11) : Int) < ((m : Int) : Int) := zD
     obtain ⟨hx14_0, hf14_0⟩ := PT_cell HO_0.out ((ji11) : Int) p14 q14
     replace p14 := eq_true p14
     replace q14 := eq_true q14
     obtain ⟨hy16_, hz16_⟩ := PT_cell HO_0.out ((ji11) : Int) zD zD
     have HP16 := PT_put HO_0.out ((ji11) : Int) (((rd x0_1 (ji11)) + ((x4_1) % 4294967296)) % 4294967296) zD zD
     go_wp2_with (first | ((with_reducible refine gate_store (t := 37) (p := 41) rfl ?_); refine store_event (t := 37) (p := 41) (v := ?vo_w17) (w1 := (wr.setCell ⟨g, lo + ((ji11) : Int).toNat, none⟩ (.int .u32 (((rd x0_1 (ji11)) + ((x4_1) % 4294967296)) % 4294967296)))) ?hg ?ho ?hn ?hr ?_; (case ho => rfl); (case hg => rfl); (case hn => rfl); (case hr => first | (go_simp; done) | (go_simp; rfl)); intro w17 hw; have hg : wr.grownBy w17 (some g) := (by rw [hw]; exact HP16.2); have hp_ : PT 37 w17 w0.heap.size (fun k_ => (P0_ k_ ∨ w.heap.size ≤ k_)) g L co lo m pre suf y184 := (by rw [hw, Ny184.out]; exact HP16.1); clear HP16; replace HB := zA ((by rw [hw]; exact below_set (HB.out) GB.out : Below w0.heap.size w0 w17)); replace HK := zA (Kept.of_grown (S := (fun k_ => P0_ k_)) hg zK (PT_ok HO_0.out)); replace HO_0 := zA (hp_); clear hg hw hp_))
     first | go_end0 | ((try simp only [Exit.inBlock, Exit.then]); refine bodyPost_ret (results_none rfl _ _ _) rfl ?_)
     exact ⟨by first | rfl | (simp [errW_none, errW_some] <;> rfl) | (simp only [← hji11]; first | rfl | (simp [errW_none, errW_some] <;> rfl)) | (simp [*, errW_none, errW_some] <;> rfl), by (with_reducible repeat (first | apply Kd.R_alloc | apply Kd.R_drewN | apply Kd.R_drew)); (first | exact HO_0.out.1 | (rw [← List.append_assoc]; exact HO_0.out.1)), zH, zK⟩
    rw [if_neg c13] at H
    cases H
   rw [if_neg c12] at H
   cases H

set_option maxHeartbeats 8000000 in
set_option maxRecDepth 100000 in
theorem bignat_subtractScaled.part (k : Nat) (P0_ : Nat → Prop) (ad : Addr) (L co : Nat) (l0 : List Int) (lo' hi' : Int) (A' : Option Addr) (m' c' : Nat) (ys : List Int) (hA : A' = (if co = lo'.toNat then (some ad) else ((some ad) : Option Addr).map (·.add (lo'.toNat * 1)))) (hm : m' = hi'.toNat - lo'.toNat) (hy : ys = (l0.take hi'.toNat).drop lo'.toNat) (hL : hi'.toNat ≤ l0.length) (hM : lo'.toNat ≤ hi'.toNat) (A1 : Option Addr) (c1 : Nat) (l1 : List Int) (a2 : Int) (r1 : Bool) (r2 : List Int) (w0 w : World) (hB : Below w0.heap.size w0 w) (ho0 : Kd.R (Kd.int .u32) 37 w w0.heap.size P0_ (.slice (some ad) L co) l0) (hr1 : ∀ W_, Kept w W_ (fun k_ => P0_ k_) → Kd.C (Kd.int .u32) W_ A1 l1.length l1) (hc1 : l1.length ≤ c1) (h : bignat_subtractScaled.fp k l0 lo' hi' l1 a2 = some (r1, r2)) :
 Calls Tryd.prog 104 #[.slice A' m' c', .slice A1 l1.length c1, .int .u64 a2] w fun e w' => e = .returned (.bool r1) ∧ Kd.R (Kd.int .u32) 37 w' w0.heap.size (fun k_ => (P0_ k_ ∨ w.heap.size ≤ k_)) (.slice (some ad) L co) r2 ∧ Below w0.heap.size w0 w' ∧ Kept w w' (fun k_ => P0_ k_) := by
 obtain rfl : ys.length = m' := by rw [hm, hy, List.length_drop, List.length_take]; omega
 unfold bignat_subtractScaled.fp at h
 rw [← hy] at h
 obtain ⟨p_, hp_, hr_⟩ := Option.map_eq_some_iff.1 h
 clear h
 have hpos : 0 < ys.length := by
  cases ys with
  | nil => exact absurd hp_ (by rw [bignat_subtractScaled.nil_none]; simp)
  | cons y ys => simp
 obtain ⟨g, co_, eo, gb, gl, cl, HG⟩ := Kd.R_form ho0 (by omega)
 injection eo with ea en ec
 injection ea with ea
 subst ea
 subst ec
 subst en
 have hroom := (Kd.R_reads' ho0).2.1
 rw [if_neg (by omega), Option.map_some, add_plain, Nat.mul_one] at hA
 subst hA
 have hsplit : l0 = l0.take lo'.toNat ++ ys ++ l0.drop hi'.toNat := by
  rw [hy, List.drop_take, List.append_assoc]
  conv => lhs; rw [← List.take_append_drop lo'.toNat l0]
  congr 1
  conv => lhs; rw [← List.take_append_drop (hi'.toNat - lo'.toNat) (l0.drop lo'.toNat)]
  rw [List.drop_drop, show lo'.toNat + (hi'.toNat - lo'.toNat) = hi'.toNat by omega]
 have hpre : (l0.take lo'.toNat).length = lo'.toNat := by rw [List.length_take]; omega
 have HP0 : PT 37 w w0.heap.size (fun k_ => (P0_ k_ ∨ w.heap.size ≤ k_)) g l0.length co lo'.toNat ys.length (l0.take lo'.toNat) (l0.drop hi'.toNat) ys := ⟨by rw [← hsplit]; exact Kd.R_mono ho0 (fun k_ hk => (.inl hk)), hpre, rfl⟩
 generalize hlo : lo'.toNat = lo at *
 generalize hmm : ys.length = m at *
 generalize l0.take lo = pre at *
 generalize l0.drop hi'.toNat = suf at *
 generalize hLL : l0.length = L at *
 clear hsplit hpre ho0 hy hm hL hM hroom HG gl cl
 have HMg := zA (HP0.1.1 g rfl)
 have GB := zA gb
 clear gb
 obtain ⟨p1_, p2_⟩ := p_
 injection hr_ with e1_ e2_
 subst e1_
 subst e2_
 have HO0 := zA HP0
 have HR1 := zA hr1
 have HC1 := zA hc1
 clear hr1 hc1
 have HK := zA (Kept.refl w (fun k_ => P0_ k_))
 have HW0 := zA hB.size
 have HB := zA hB
 clear hB
 have H := hp_
 unfold bignat_subtractScaled.f at H
 clear hp_
 have H' := zA H
 clear H
 clear HP0 hlo hmm hLL hpos
 go_enter Tryd.func104, Tryd.ntmps104
 go_wp2
 go_loopg [7, 16] k (fun kq v7 v16 w' => ∃ (x0_1 : List Int) (x7_1 : Int) (x16_1 : Int), v7 = .int .u64 x7_1 ∧ v16 = .int .i64 x16_1 ∧ Aside0 (bignat_subtractScaled.l0 kq x0_1 a2 x7_1 l1 (l1.length : Int) x16_1 = some (p1_, p2_)) ∧ Aside0 (kq ≤ k) ∧ Aside0 (PT 37 w' w0.heap.size (fun k_ => (P0_ k_ ∨ w.heap.size ≤ k_)) g L co lo m pre suf x0_1) ∧ Aside0 (Kept w w' (fun k_ => P0_ k_)) ∧ Aside0 (Below w0.heap.size w0 w'))
 case atStart => exact ⟨(ys), (0), (0), zT, zT, H', ⟨Nat.le_refl _⟩, ⟨by (with_reducible repeat (first | apply PT_alloc | apply PT_drewN | apply PT_drew)); exact HO0.out⟩, ⟨zK⟩, ⟨zH⟩⟩
 case round =>
  clear H'
  try clear c1
  try clear p2
  obtain ⟨x0_1, x7_1, x16_1, rfl, rfl, HA, HK1, HO_0, HK, HB⟩ := hrel
  have hlen := HO_0.out.2.2
  cases gk with
  | zero => exact absurd HA.out (by simp [bignat_subtractScaled.l0])
  | succ k1 =>
   have H := HA.out
   clear HA
   simp only [bignat_subtractScaled.l0, hlen] at H
   clear hlen
   by_cases c4 : x16_1 < (l1.length : Int)
   ·
    rw [if_pos c4] at H
    have c4b0 := decide_eq_true c4
    clear c4
    by_cases c5 : 0 ≤ x16_1
    ·
     rw [if_pos c5] at H
     have c5b0 := decide_eq_true c5
     clear c5
     by_cases c6 : x16_1 < (l1.length : Int)
     ·
      rw [if_pos c6] at H
      have c6b0 := decide_eq_true c6
      clear c6
      by_cases c7 : x16_1 < (m : Int)
      ·
       rw [if_pos c7] at H
       have c7b0 := decide_eq_true c7
       clear c7
       by_cases c8 : (rd x0_1 x16_1) < ((IntKind.u64.wrap ((IntKind.u64.wrap (a2 * (IntKind.u64.wrap (rd l1 x16_1)))) + x7_1)) % 4294967296)
       ·
        rw [if_pos c8] at H
        have c8b0 := decide_eq_true c8
        clear c8
        obtain ⟨y174, hy174⟩ : ∃ y_ : List Int, y_ = (x0_1.set (x16_1 : Int).toNat (((rd x0_1 x16_1) - ((IntKind.u64.wrap ((IntKind.u64.wrap (a2 * (IntKind.u64.wrap (rd l1 x16_1)))) + x7_1)) % 4294967296)) % 4294967296)) := ⟨_, rfl⟩
        replace H : (bignat_subtractScaled.l0 k1 y174 a2 (IntKind.u64.wrap (((IntKind.u64.wrap ((IntKind.u64.wrap (a2 * (IntKind.u64.wrap (rd l1 x16_1)))) + x7_1)) / 4294967296) + 1)) l1 (l1.length : Int) (wrap64 (x16_1 + 1))) = some (p1_, p2_) := by first | (rw [hy174]; with_reducible exact H) | (have H2_ := (Option.bind_some _ _).symm.trans H; rw [hy174]; with_reducible exact H2_) | (have H2_ := (Option.bind_some _ _).symm.trans H; with_reducible exact H2_) | with_reducible exact H | (rw [hy174]; exact H) | exact H
        have Ny174 := zA hy174
        clear hy174
        have H' := zA H
        clear H
        have p171 : 0 ≤ (x16_1 : Int) := zD
        have q171 : x16_1 < (l1.length : Int) := zD
        obtain ⟨ad171, e171, hx171_0⟩ := Kd.at_int (Kd.C_kept_now HR1.out HK.out) x16_1 p171 q171
        cases e171
        replace p171 := eq_true p171
        replace q171 := eq_true q171
        have p172 : 0 ≤ (x16_1 : Int) := zD
        have q172 : x16_1 < (m : Int) := zD
        have hx172_0 := (PT_cell HO_0.out x16_1 p172 q172).1
        replace p172 := eq_true p172
        replace q172 := eq_true q172
        have p173 : 0 ≤ (x16_1 : Int) := zD
        have q173 : x16_1 < (m : Int) := zD
        have hx173_0 := (PT_cell HO_0.out x16_1 p173 q173).1
        replace p173 := eq_true p173
        replace q173 := eq_true q173
        have p9 : 0 ≤ (x16_1 : Int) := zD
        have q9 : (x16_1 : Int) < ((m : Int) : Int) := zD
        obtain ⟨hx9_0, hf9_0⟩ := PT_cell HO_0.out (x16_1 : Int) p9 q9
        replace p9 := eq_true p9
        replace q9 := eq_true q9
        obtain ⟨hy11_, hz11_⟩ := PT_cell HO_0.out (x16_1 : Int) zD zD
        have HP11 := PT_put HO_0.out (x16_1 : Int) (((rd x0_1 x16_1) - ((IntKind.u64.wrap ((IntKind.u64.wrap (a2 * (IntKind.u64.wrap (rd l1 x16_1)))) + x7_1)) % 4294967296)) % 4294967296) zD zD
        go_wp2_with (first | ((with_reducible refine gate_store (t := 37) (p := 45) rfl ?_); refine store_event (t := 37) (p := 45) (v := ?vo_w12) (w1 := (wr.setCell ⟨g, lo + (x16_1 : Int).toNat, none⟩ (.int .u32 (((rd x0_1 x16_1) - ((IntKind.u64.wrap ((IntKind.u64.wrap (a2 * (IntKind.u64.wrap (rd l1 x16_1)))) + x7_1)) % 4294967296)) % 4294967296)))) ?hg ?ho ?hn ?hr ?_; (case ho => rfl); (case hg => rfl); (case hn => rfl); (case hr => first | (go_simp; done) | (go_simp; rfl)); intro w12 hw; have hg : wr.grownBy w12 (some g) := (by rw [hw]; exact HP11.2); have hp_ : PT 37 w12 w0.heap.size (fun k_ => (P0_ k_ ∨ w.heap.size ≤ k_)) g L co lo m pre suf y174 := (by rw [hw, Ny174.out]; exact HP11.1); clear HP11; replace HB := zA ((by rw [hw]; exact below_set (HB.out) GB.out : Below w0.heap.size w0 w12)); replace HK := zA (Kept.of_grown (S := (fun k_ => P0_ k_)) hg zK (PT_ok HO_0.out)); replace HO_0 := zA (hp_); clear hg hw hp_))
        go_roundg k1
        case measure => have := HK1.out; omega
        case rel => exact ⟨(y174), (IntKind.u64.wrap (((IntKind.u64.wrap ((IntKind.u64.wrap (a2 * (IntKind.u64.wrap (rd l1 x16_1)))) + x7_1)) / 4294967296) + 1)), (wrap64 (x16_1 + 1)), zT, zT, H', ⟨by have := HK1.out; omega⟩, ⟨by (with_reducible repeat (first | apply PT_alloc | apply PT_drewN | apply PT_drew)); exact HO_0.out⟩, ⟨zK⟩, ⟨zH⟩⟩
       rw [if_neg c8] at H
       have c8b0 := decide_eq_false c8
       clear c8
       obtain ⟨y176, hy176⟩ : ∃ y_ : List Int, y_ = (x0_1.set (x16_1 : Int).toNat (((rd x0_1 x16_1) - ((IntKind.u64.wrap ((IntKind.u64.wrap (a2 * (IntKind.u64.wrap (rd l1 x16_1)))) + x7_1)) % 4294967296)) % 4294967296)) := ⟨_, rfl⟩
       replace H : (bignat_subtractScaled.l0 k1 y176 a2 ((IntKind.u64.wrap ((IntKind.u64.wrap (a2 * (IntKind.u64.wrap (rd l1 x16_1)))) + x7_1)) / 4294967296) l1 (l1.length : Int) (wrap64 (x16_1 + 1))) = some (p1_, p2_) := by first | (rw [hy176]; with_reducible exact H) | (have H2_ := (Option.bind_some _ _).symm.trans H; rw [hy176]; with_reducible exact H2_) | (have H2_ := (Option.bind_some _ _).symm.trans H; with_reducible exact H2_) | with_reducible exact H | (rw [hy176]; exact H) | exact H
       have Ny176 := zA hy176
       clear hy176
       have H' := zA H
       clear H
       have p171 : 0 ≤ (x16_1 : Int) := zD
       have q171 : x16_1 < (l1.length : Int) := zD
       obtain ⟨ad171, e171, hx171_0⟩ := Kd.at_int (Kd.C_kept_now HR1.out HK.out) x16_1 p171 q171
       cases e171
       replace p171 := eq_true p171
       replace q171 := eq_true q171
       have p172 : 0 ≤ (x16_1 : Int) := zD
       have q172 : x16_1 < (m : Int) := zD
       have hx172_0 := (PT_cell HO_0.out x16_1 p172 q172).1
       replace p172 := eq_true p172
       replace q172 := eq_true q172
       have p175 : 0 ≤ (x16_1 : Int) := zD
       have q175 : x16_1 < (m : Int) := zD
       have hx175_0 := (PT_cell HO_0.out x16_1 p175 q175).1
       replace p175 := eq_true p175
       replace q175 := eq_true q175
       have p13 : 0 ≤ (x16_1 : Int) := zD
       have q13 : (x16_1 : Int) < ((m : Int) : Int) := zD
       obtain ⟨hx13_0, hf13_0⟩ := PT_cell HO_0.out (x16_1 : Int) p13 q13
       replace p13 := eq_true p13
       replace q13 := eq_true q13
       obtain ⟨hy15_, hz15_⟩ := PT_cell HO_0.out (x16_1 : Int) zD zD
       have HP15 := PT_put HO_0.out (x16_1 : Int) (((rd x0_1 x16_1) - ((IntKind.u64.wrap ((IntKind.u64.wrap (a2 * (IntKind.u64.wrap (rd l1 x16_1)))) + x7_1)) % 4294967296)) % 4294967296) zD zD
       go_wp2_with (first | ((with_reducible refine gate_store (t := 37) (p := 45) rfl ?_); refine store_event (t := 37) (p := 45) (v := ?vo_w16) (w1 := (wr.setCell ⟨g, lo + (x16_1 : Int).toNat, none⟩ (.int .u32 (((rd x0_1 x16_1) - ((IntKind.u64.wrap ((IntKind.u64.wrap (a2 * (IntKind.u64.wrap (rd l1 x16_1)))) + x7_1)) % 4294967296)) % 4294967296)))) ?hg ?ho ?hn ?hr ?_; (case ho => rfl); (case hg => rfl); (case hn => rfl); (case hr => first | (go_simp; done) | (go_simp; rfl)); intro w16 hw; have hg : wr.grownBy w16 (some g) := (by rw [hw]; exact HP15.2); have hp_ : PT 37 w16 w0.heap.size (fun k_ => (P0_ k_ ∨ w.heap.size ≤ k_)) g L co lo m pre suf y176 := (by rw [hw, Ny176.out]; exact HP15.1); clear HP15; replace HB := zA ((by rw [hw]; exact below_set (HB.out) GB.out : Below w0.heap.size w0 w16)); replace HK := zA (Kept.of_grown (S := (fun k_ => P0_ k_)) hg zK (PT_ok HO_0.out)); replace HO_0 := zA (hp_); clear hg hw hp_))
       go_roundg k1
       case measure => have := HK1.out; omega
       case rel => exact ⟨(y176), ((IntKind.u64.wrap ((IntKind.u64.wrap (a2 * (IntKind.u64.wrap (rd l1 x16_1)))) + x7_1)) / 4294967296), (wrap64 (x16_1 + 1)), zT, zT, H', ⟨by have := HK1.out; omega⟩, ⟨by (with_reducible repeat (first | apply PT_alloc | apply PT_drewN | apply PT_drew)); exact HO_0.out⟩, ⟨zK⟩, ⟨zH⟩⟩
      rw [if_neg c7] at H
      cases H
     rw [if_neg c6] at H
     cases H
    rw [if_neg c5] at H
    cases H
   rw [if_neg c4] at H
   have c4b0 := decide_eq_false c4
   clear c4
   obtain ⟨ji17, hji17⟩ : ∃ j_ : Int, (wrap64 ((m : Int) - 1)) = j_ := ⟨_, rfl⟩
   replace H : (if 0 ≤ (ji17) then (if (ji17) < (m : Int) then (some (decide ((IntKind.u64.wrap (rd x0_1 (ji17))) < x7_1), (x0_1.set ((ji17) : Int).toNat (((rd x0_1 (ji17)) - ((x7_1) % 4294967296)) % 4294967296)))) else (none)) else (none)) = some (p1_, p2_) := by first | (rw [hji17] at H; exact H) | (simp only [hji17] at H ⊢; exact H)
   have hji17w : (IntKind.i64.wrap ((m : Int) - 1)) = ji17 := (i64_w _).trans hji17
   (try (have hji17r := hji17; simp only [hji11] at hji17r))
   (try (have hji17wr := hji17w; simp only [hji11] at hji17wr))
   by_cases c18 : 0 ≤ (ji17)
   ·
    rw [if_pos c18] at H
    have c18b0 := decide_eq_true c18
    clear c18
    by_cases c19 : (ji17) < (m : Int)
    ·
     rw [if_pos c19] at H
     have c19b0 := decide_eq_true c19
     clear c19
     obtain ⟨y179, hy179⟩ : ∃ y_ : List Int, y_ = (x0_1.set ((ji17) : Int).toNat (((rd x0_1 (ji17)) - ((x7_1) % 4294967296)) % 4294967296)) := ⟨_, rfl⟩
     replace H : (some (decide ((IntKind.u64.wrap (rd x0_1 (ji17))) < x7_1), y179)) = some (p1_, p2_) := by first | (rw [hy179]; with_reducible exact H) | (have H2_ := (Option.bind_some _ _).symm.trans H; rw [hy179]; with_reducible exact H2_) | (have H2_ := (Option.bind_some _ _).symm.trans H; with_reducible exact H2_) | with_reducible exact H | (rw [hy179]; exact H) | exact H
     have Ny179 := zA hy179
     clear hy179
     simp only [Option.some.injEq, Prod.mk.injEq] at H
     obtain ⟨rfl, rfl⟩ := H
     have p177 : 0 ≤ ((ji17) : Int) := zD
     have q177 : (ji17) < (m : Int) := zD
     have hx177_0 := (PT_cell HO_0.out (ji17) p177 q177).1
     replace p177 := eq_true p177
     replace q177 := eq_true q177
     have p178 : 0 ≤ ((ji17) : Int) := zD
     have q178 : (ji17) < (m : Int) := zD
     have hx178_0 := (PT_cell HO_0.out (ji17) p178 q178).1
     replace p178 := eq_true p178
     replace q178 := eq_true q178
     have p20 : 0 ≤ ((ji17) : Int) := zD
     have q20 : ((ji17) : Int) < ((m : Int) : Int) := zD
     obtain ⟨hx20_0, hf20_0⟩ := PT_cell HO_0.out ((ji17) : Int) p20 q20
     replace p20 := eq_true p20
     replace q20 := eq_true q20
     obtain ⟨hy22_, hz22_⟩ := PT_cell HO_0.out ((ji17) : Int) zD zD
     have HP22 := PT_put HO_0.out ((ji17) : Int) (((rd x0_1 (ji17)) - ((x7_1) % 4294967296)) % 4294967296) zD zD
     go_wp2_with (first | ((with_reducible refine gate_store (t := 37) (p := 64) rfl ?_); refine store_event (t := 37) (p := 64) (v := ?vo_w23) (w1 := (wr.setCell ⟨g, lo + ((ji17) : Int).toNat, none⟩ (.int .u32 (((rd x0_1 (ji17)) - ((x7_1) % 4294967296)) % 4294967296)))) ?hg ?ho ?hn ?hr ?_; (case ho => rfl); (case hg => rfl); (case hn => rfl); (case hr => first | (go_simp; done) | (go_simp; rfl)); intro w23 hw; have hg : wr.grownBy w23 (some g) := (by rw [hw]; exact HP22.2); have hp_ : PT 37 w23 w0.heap.size (fun k_ => (P0_ k_ ∨ w.heap.size ≤ k_)) g L co lo m pre suf y179 := (by rw [hw, Ny179.out]; exact HP22.1); clear HP22; replace HB := zA ((by rw [hw]; exact below_set (HB.out) GB.out : Below w0.heap.size w0 w23)); replace HK := zA (Kept.of_grown (S := (fun k_ => P0_ k_)) hg zK (PT_ok HO_0.out)); replace HO_0 := zA (hp_); clear hg hw hp_))
     go_ret
     exact ⟨by first | rfl | (simp [errW_none, errW_some] <;> rfl) | (simp only [← hji17]; first | rfl | (simp [errW_none, errW_some] <;> rfl)) | (simp [*, errW_none, errW_some] <;> rfl), by (with_reducible repeat (first | apply Kd.R_alloc | apply Kd.R_drewN | apply Kd.R_drew)); (first | exact HO_0.out.1 | (rw [← List.append_assoc]; exact HO_0.out.1)), zH, zK⟩
    rw [if_neg c19] at H
    cases H
   rw [if_neg c18] at H
   cases H
mutual
def bignat_divLong.l0 : Nat → Int → Int → List Int → List Int → List Int → Int → Int → Int → Option (List Int × List Int)
 | 0, _, _, _, _, _, _, _, _ => none
 | k + 1, x6, x7, x8, x9, x10, x11, x12, x13 => if x13 ≥ 0 then (if 0 ≤ (wrap64 (x13 + x6)) then (if (wrap64 (x13 + x6)) < (x8.length : Int) then (if 0 ≤ (wrap64 ((wrap64 (x13 + x6)) - 1)) then (if (wrap64 ((wrap64 (x13 + x6)) - 1)) < (x8.length : Int) then (if x11 = 0 then (none) else (bignat_divLong.l1 k x6 x7 x8 x9 x10 x11 x12 x13 (IntKind.u64.wrap (Int.tdiv (Go.bits .or .u64 (IntKind.u64.wrap ((IntKind.u64.wrap (rd x8 (wrap64 (x13 + x6)))) * 4294967296)) (IntKind.u64.wrap (rd x8 (wrap64 ((wrap64 (x13 + x6)) - 1))))) x11)) (Int.tmod (Go.bits .or .u64 (IntKind.u64.wrap ((IntKind.u64.wrap (rd x8 (wrap64 (x13 + x6)))) * 4294967296)) (IntKind.u64.wrap (rd x8 (wrap64 ((wrap64 (x13 + x6)) - 1))))) x11))) else (none)) else (none)) else (none)) else (none)) else (if 0 ≤ x6 then (if (x6 : Int).toNat ≤ 70368744177664 then ((some (List.replicate (x6 : Int).toNat 0 : List Int)).bind fun y214 => (bignat_divLong.l2 k x7 x8 x10 y214 (y214.length : Int) 0)) else (none)) else (none))
def bignat_divLong.j3 : Nat → Int → Int → List Int → List Int → List Int → Int → Int → Int → Int → Option (List Int × List Int)
 | 0, _, _, _, _, _, _, _, _, _ => none
 | k + 1, x6, x7, x8, x9, x10, x11, x12, x13, x15 => if 0 ≤ x13 then (if x13 ≤ (wrap64 ((wrap64 (x13 + x6)) + 1)) then (if (wrap64 ((wrap64 (x13 + x6)) + 1)) ≤ (x8.length : Int) then ((bignat_subtractScaled.fp k x8 x13 (wrap64 ((wrap64 (x13 + x6)) + 1)) x9 x15).bind fun bt205 => (if bt205.1 = true then ((bignat_addBack.fp k bt205.2 x13 (wrap64 ((wrap64 (x13 + x6)) + 1)) x9).bind fun t211 => (if x13 < (x10.length : Int) then (bignat_divLong.l0 k x6 x7 t211 x9 (x10.set (x13 : Int).toNat ((IntKind.u64.wrap (x15 - 1)) % 4294967296)) x11 x12 (wrap64 (x13 - 1))) else (none))) else (if x13 < (x10.length : Int) then (bignat_divLong.l0 k x6 x7 bt205.2 x9 (x10.set (x13 : Int).toNat ((x15) % 4294967296)) x11 x12 (wrap64 (x13 - 1))) else (none)))) else (none)) else (none)) else (none)
def bignat_divLong.l1 : Nat → Int → Int → List Int → List Int → List Int → Int → Int → Int → Int → Int → Option (List Int × List Int)
 | 0, _, _, _, _, _, _, _, _, _, _ => none
 | k + 1, x6, x7, x8, x9, x10, x11, x12, x13, x15, x16 => if (x15 / 4294967296) = 0 then (if 0 ≤ (wrap64 ((wrap64 (x13 + x6)) - 2)) then (if (wrap64 ((wrap64 (x13 + x6)) - 2)) < (x8.length : Int) then (bignat_divLong.j2 k x6 x7 x8 x9 x10 x11 x12 x13 x15 x16 (decide ((IntKind.u64.wrap (x15 * x12)) > (Go.bits .or .u64 (IntKind.u64.wrap (x16 * 4294967296)) (IntKind.u64.wrap (rd x8 (wrap64 ((wrap64 (x13 + x6)) - 2)))))))) else (none)) else (none)) else (bignat_divLong.j2 k x6 x7 x8 x9 x10 x11 x12 x13 x15 x16 true)
def bignat_divLong.j2 : Nat → Int → Int → List Int → List Int → List Int → Int → Int → Int → Int → Int → Bool → Option (List Int × List Int)
 | 0, _, _, _, _, _, _, _, _, _, _, _ => none
 | k + 1, x6, x7, x8, x9, x10, x11, x12, x13, x15, x16, x106 => if x106 = true then (if ((IntKind.u64.wrap (x16 + x11)) / 4294967296) = 0 then (bignat_divLong.l1 k x6 x7 x8 x9 x10 x11 x12 x13 (IntKind.u64.wrap (x15 - 1)) (IntKind.u64.wrap (x16 + x11))) else (bignat_divLong.j3 k x6 x7 x8 x9 x10 x11 x12 x13 (IntKind.u64.wrap (x15 - 1)))) else (bignat_divLong.j3 k x6 x7 x8 x9 x10 x11 x12 x13 x15)
def bignat_divLong.l2 : Nat → Int → List Int → List Int → List Int → Int → Int → Option (List Int × List Int)
 | 0, _, _, _, _, _, _ => none
 | k + 1, x7, x8, x10, x17, x144, x145 => if x145 < x144 then (if 0 ≤ (wrap64 (x145 + 1)) then (if (wrap64 (x145 + 1)) < (x8.length : Int) then (if 0 ≤ x145 then (if x145 < (x8.length : Int) then (if 0 ≤ x7 then (if x145 < (x17.length : Int) then (bignat_divLong.l2 k x7 x8 x10 (x17.set (x145 : Int).toNat ((shr .u64 (Go.bits .or .u64 (IntKind.u64.wrap ((IntKind.u64.wrap (rd x8 (wrap64 (x145 + 1)))) * 4294967296)) (IntKind.u64.wrap (rd x8 x145))) x7) % 4294967296)) x144 (wrap64 (x145 + 1))) else (none)) else (none)) else (none)) else (none)) else (none)) else (none)) else ((bignat_trim.f k x10).bind fun t220 => ((bignat_trim.f k x17).bind fun t223 => (some (t220, t223))))
end
def bignat_divLong.f (k : Nat) (l0 : List Int) (l1 : List Int) : Option (List Int × List Int) := if 0 ≤ (wrap64 ((l1.length : Int) - 1)) then (if (wrap64 ((l1.length : Int) - 1)) < (l1.length : Int) then ((bits_LeadingZeros32.f (rd l1 (wrap64 ((l1.length : Int) - 1)))).bind fun t186 => ((bignat_shiftLeft.f k l0 (IntKind.u64.wrap (t186)) (wrap64 ((l0.length : Int) + 1))).bind fun t187 => ((bignat_shiftLeft.f k l1 (IntKind.u64.wrap (t186)) (l1.length : Int)).bind fun t190 => (if 0 ≤ (wrap64 ((wrap64 ((l0.length : Int) - (l1.length : Int))) + 1)) then (if (wrap64 ((wrap64 ((l0.length : Int) - (l1.length : Int))) + 1) : Int).toNat ≤ 70368744177664 then (if (wrap64 ((l1.length : Int) - 1)) < (t190.length : Int) then (if 0 ≤ (wrap64 ((l1.length : Int) - 2)) then (if (wrap64 ((l1.length : Int) - 2)) < (t190.length : Int) then (bignat_divLong.l0 k (l1.length : Int) (IntKind.u64.wrap (t186)) t187 t190 (List.replicate (wrap64 ((wrap64 ((l0.length : Int) - (l1.length : Int))) + 1) : Int).toNat 0) (IntKind.u64.wrap (rd t190 (wrap64 ((l1.length : Int) - 1)))) (IntKind.u64.wrap (rd t190 (wrap64 ((l1.length : Int) - 2)))) (wrap64 ((l0.length : Int) - (l1.length : Int)))) else (none)) else (none)) else (none)) else (none)) else (none))))) else (none)) else (none)
theorem bignat_divLong.mono_l : ∀ k, (∀ y0 y1 y2 y3 y4 y5 y6 y7, LeO (bignat_divLong.l0 k y0 y1 y2 y3 y4 y5 y6 y7) (bignat_divLong.l0 (k + 1) y0 y1 y2 y3 y4 y5 y6 y7)) ∧ (∀ y0 y1 y2 y3 y4 y5 y6 y7 y8, LeO (bignat_divLong.j3 k y0 y1 y2 y3 y4 y5 y6 y7 y8) (bignat_divLong.j3 (k + 1) y0 y1 y2 y3 y4 y5 y6 y7 y8)) ∧ (∀ y0 y1 y2 y3 y4 y5 y6 y7 y8 y9, LeO (bignat_divLong.l1 k y0 y1 y2 y3 y4 y5 y6 y7 y8 y9) (bignat_divLong.l1 (k + 1) y0 y1 y2 y3 y4 y5 y6 y7 y8 y9)) ∧ (∀ y0 y1 y2 y3 y4 y5 y6 y7 y8 y9 y10, LeO (bignat_divLong.j2 k y0 y1 y2 y3 y4 y5 y6 y7 y8 y9 y10) (bignat_divLong.j2 (k + 1) y0 y1 y2 y3 y4 y5 y6 y7 y8 y9 y10)) ∧ (∀ y0 y1 y2 y3 y4 y5, LeO (bignat_divLong.l2 k y0 y1 y2 y3 y4 y5) (bignat_divLong.l2 (k + 1) y0 y1 y2 y3 y4 y5))
 | 0 => ⟨fun _ _ _ _ _ _ _ _ r h => by simp [bignat_divLong.l0] at h, fun _ _ _ _ _ _ _ _ _ r h => by simp [bignat_divLong.j3] at h, fun _ _ _ _ _ _ _ _ _ _ r h => by simp [bignat_divLong.l1] at h, fun _ _ _ _ _ _ _ _ _ _ _ r h => by simp [bignat_divLong.j2] at h, fun _ _ _ _ _ _ r h => by simp [bignat_divLong.l2] at h⟩
 | k + 1 => by
  obtain ⟨ih0, ih1, ih2, ih3, ih4⟩ := bignat_divLong.mono_l k
  refine ⟨?_, ?_, ?_, ?_, ?_⟩
  ·
   intro y0 y1 y2 y3 y4 y5 y6 y7
   unfold bignat_divLong.l0
   exact zm9 ih0 ih1 ih2 ih3 ih4 bignat_addBack.monop bignat_shiftLeft.mono bignat_subtractScaled.monop bignat_trim.mono
  ·
   intro y0 y1 y2 y3 y4 y5 y6 y7 y8
   unfold bignat_divLong.j3
   exact zm9 ih0 ih1 ih2 ih3 ih4 bignat_addBack.monop bignat_shiftLeft.mono bignat_subtractScaled.monop bignat_trim.mono
  ·
   intro y0 y1 y2 y3 y4 y5 y6 y7 y8 y9
   unfold bignat_divLong.l1
   exact zm9 ih0 ih1 ih2 ih3 ih4 bignat_addBack.monop bignat_shiftLeft.mono bignat_subtractScaled.monop bignat_trim.mono
  ·
   intro y0 y1 y2 y3 y4 y5 y6 y7 y8 y9 y10
   unfold bignat_divLong.j2
   exact zm9 ih0 ih1 ih2 ih3 ih4 bignat_addBack.monop bignat_shiftLeft.mono bignat_subtractScaled.monop bignat_trim.mono
  intro y0 y1 y2 y3 y4 y5
  unfold bignat_divLong.l2
  exact zm9 ih0 ih1 ih2 ih3 ih4 bignat_addBack.monop bignat_shiftLeft.mono bignat_subtractScaled.monop bignat_trim.mono
theorem bignat_divLong.mono : ∀ a0 a1 k, LeO (bignat_divLong.f k a0 a1) (bignat_divLong.f (k + 1) a0 a1) := by
 intro a0 a1 k
 obtain ⟨ih0, ih1, ih2, ih3, ih4⟩ := bignat_divLong.mono_l k
 unfold bignat_divLong.f
 exact zm9 ih0 ih1 ih2 ih3 ih4 bignat_addBack.monop bignat_shiftLeft.mono bignat_subtractScaled.monop bignat_trim.mono
def bignat_divLong.T6 : Bool × List (List Nat × List Nat) := (true, [([], []), ([], []), ([1], [1]), ([0, 2], [0, 2]), ([3], [3]), ([4], [4]), ([], []), ([], []), ([7], [7]), ([6, 8], [6, 8]), ([9], [9]), ([10], [10]), ([5, 0, 1, 2, 3, 4, 5], [5]), ([11, 12, 0, 1, 2, 3, 4, 5, 6, 7, 8, 9, 10, 11, 12], [11])])
def bignat_divLong.B6 : List Nat := [0, 0, 2, 7, 15, 31, 0, 0, 128, 448, 960, 1984, 63, 8191]
theorem bignat_divLong.tab6 : rtab .any (opsOf Tryd.f91 6) = bignat_divLong.T6 := by kernel_rfl
theorem bignat_divLong.bits6 : waitsOk bignat_divLong.T6.2 bignat_divLong.B6 = true := by kernel_rfl
def bignat_divLong.T10 : Bool × List (List Nat × List Nat) := (true, [([], []), ([], []), ([], []), ([1, 2], [1, 2]), ([0, 3], [0, 3]), ([4], [4]), ([5], [5]), ([6], [6]), ([], []), ([], []), ([], []), ([9, 10], [9, 10]), ([11], [11]), ([8, 12], [8, 12]), ([13], [13]), ([14], [14]), ([7, 15], [7, 15]), ([16, 0, 1, 2, 3, 4, 5, 6, 7, 8, 9, 10, 11, 12, 13, 14, 15, 16], [16])])
def bignat_divLong.B10 : List Nat := [0, 0, 0, 6, 15, 31, 63, 127, 0, 0, 0, 1536, 3584, 7936, 16128, 32512, 65535, 131071]
theorem bignat_divLong.tab10 : rtab .any (opsOf Tryd.f91 10) = bignat_divLong.T10 := by kernel_rfl
theorem bignat_divLong.bits10 : waitsOk bignat_divLong.T10.2 bignat_divLong.B10 = true := by kernel_rfl
def bignat_divLong.T11 : Bool × List (List Nat × List Nat) := (true, [([], []), ([], []), ([0, 1], [0, 1]), ([], []), ([], []), ([3, 4], [3, 4]), ([2, 0, 1, 2], [2]), ([5, 6, 0, 1, 2, 3, 4, 5, 6], [5])])
def bignat_divLong.B11 : List Nat := [0, 0, 3, 0, 0, 24, 7, 127]
theorem bignat_divLong.tab11 : rtab .any (opsOf Tryd.f91 11) = bignat_divLong.T11 := by kernel_rfl
theorem bignat_divLong.bits11 : waitsOk bignat_divLong.T11.2 bignat_divLong.B11 = true := by kernel_rfl
def bignat_divLong.T24 : Bool × List (List Nat × List Nat) := (true, [([], []), ([], []), ([], []), ([], []), ([3], [3]), ([2, 4], [2, 4]), ([5], [5]), ([6], [6]), ([7], [7]), ([], []), ([], []), ([9, 10], [9, 10]), ([11], [11]), ([12], [12]), ([8, 13], [8, 13]), ([], []), ([14, 15], [14, 15]), ([16], [16]), ([0, 1, 0, 1, 2, 3, 4, 5, 6, 7, 8, 9, 10, 11, 12, 13, 14, 15, 16, 17], [0, 1]), ([18, 17, 0, 1, 2, 3, 4, 5, 6, 7, 8, 9, 10, 11, 12, 13, 14, 15, 16, 17], [17, 18])])
def bignat_divLong.B24 : List Nat := [0, 0, 0, 0, 8, 28, 60, 124, 252, 0, 0, 1536, 3584, 7680, 16380, 0, 65532, 131068, 262143, 524287]
theorem bignat_divLong.tab24 : rtab .any (opsOf Tryd.f91 24) = bignat_divLong.T24 := by kernel_rfl
theorem bignat_divLong.bits24 : waitsOk bignat_divLong.T24.2 bignat_divLong.B24 = true := by kernel_rfl
set_option maxHeartbeats 8000000 in
set_option maxRecDepth 100000 in
theorem bignat_divLong.calls (k : Nat) (A0 : Option Addr) (c0 : Nat) (l0 : List Int) (A1 : Option Addr) (c1 : Nat) (l1 : List Int) (r1 : List Int) (r2 : List Int) (w : World) (hr0 : Kd.C (Kd.int .u32) w A0 l0.length l0) (hc0 : l0.length ≤ c0) (hr1 : Kd.C (Kd.int .u32) w A1 l1.length l1) (hc1 : l1.length ≤ c1) (h : bignat_divLong.f k l0 l1 = some (r1, r2)) :
 Calls Tryd.prog 91 #[.slice A0 l0.length c0, .slice A1 l1.length c1] w fun e w' => ∃ v0_ v1_ : Value, e = .returned (.tuple #[v0_, v1_]) ∧ Kd.R (Kd.int .u32) 37 w' w.heap.size (fun k_ => some k_ ≠ (v1_ : Value).ownBlock) v0_ r1 ∧ Kd.R (Kd.int .u32) 37 w' w.heap.size (fun k_ => some k_ ≠ (v0_ : Value).ownBlock) v1_ r2 ∧ Below w.heap.size w w' := by
 have HR0 := zA hr0
 have HC0 := zA hc0
 clear hr0 hc0
 have HR1 := zA hr1
 have HC1 := zA hc1
 clear hr1 hc1
 have HB := zA (Below.refl w.heap.size w)
 have H : (if 0 ≤ (wrap64 ((l1.length : Int) - 1)) then (if (wrap64 ((l1.length : Int) - 1)) < (l1.length : Int) then ((bits_LeadingZeros32.f (rd l1 (wrap64 ((l1.length : Int) - 1)))).bind fun t186 => ((bignat_shiftLeft.f k l0 (IntKind.u64.wrap (t186)) (wrap64 ((l0.length : Int) + 1))).bind fun t187 => ((bignat_shiftLeft.f k l1 (IntKind.u64.wrap (t186)) (l1.length : Int)).bind fun t190 => (if 0 ≤ (wrap64 ((wrap64 ((l0.length : Int) - (l1.length : Int))) + 1)) then (if (wrap64 ((wrap64 ((l0.length : Int) - (l1.length : Int))) + 1) : Int).toNat ≤ 70368744177664 then (if (wrap64 ((l1.length : Int) - 1)) < (t190.length : Int) then (if 0 ≤ (wrap64 ((l1.length : Int) - 2)) then (if (wrap64 ((l1.length : Int) - 2)) < (t190.length : Int) then (bignat_divLong.l0 k (l1.length : Int) (IntKind.u64.wrap (t186)) t187 t190 (List.replicate (wrap64 ((wrap64 ((l0.length : Int) - (l1.length : Int))) + 1) : Int).toNat 0) (IntKind.u64.wrap (rd t190 (wrap64 ((l1.length : Int) - 1)))) (IntKind.u64.wrap (rd t190 (wrap64 ((l1.length : Int) - 2)))) (wrap64 ((l0.length : Int) - (l1.length : Int)))) else (none)) else (none)) else (none)) else (none)) else (none))))) else (none)) else (none)) = some (r1, r2) := h
 clear h
 obtain ⟨ji3, hji3⟩ : ∃ j_ : Int, (wrap64 ((l1.length : Int) - 1)) = j_ := ⟨_, rfl⟩
 replace H : (if 0 ≤ (ji3) then (if (ji3) < (l1.length : Int) then ((bits_LeadingZeros32.f (rd l1 (ji3))).bind fun t186 => ((bignat_shiftLeft.f k l0 (IntKind.u64.wrap (t186)) (wrap64 ((l0.length : Int) + 1))).bind fun t187 => ((bignat_shiftLeft.f k l1 (IntKind.u64.wrap (t186)) (l1.length : Int)).bind fun t190 => (if 0 ≤ (wrap64 ((wrap64 ((l0.length : Int) - (l1.length : Int))) + 1)) then (if (wrap64 ((wrap64 ((l0.length : Int) - (l1.length : Int))) + 1) : Int).toNat ≤ 70368744177664 then (if (ji3) < (t190.length : Int) then (if 0 ≤ (wrap64 ((l1.length : Int) - 2)) then (if (wrap64 ((l1.length : Int) - 2)) < (t190.length : Int) then (bignat_divLong.l0 k (l1.length : Int) (IntKind.u64.wrap (t186)) t187 t190 (List.replicate (wrap64 ((wrap64 ((l0.length : Int) - (l1.length : Int))) + 1) : Int).toNat 0) (IntKind.u64.wrap (rd t190 (ji3))) (IntKind.u64.wrap (rd t190 (wrap64 ((l1.length : Int) - 2)))) (wrap64 ((l0.length : Int) - (l1.length : Int)))) else (none)) else (none)) else (none)) else (none)) else (none))))) else (none)) else (none)) = some (r1, r2) := by first | (rw [hji3] at H; exact H) | (simp only [hji3] at H ⊢; exact H)
 have hji3w : (IntKind.i64.wrap ((l1.length : Int) - 1)) = ji3 := (i64_w _).trans hji3
 by_cases c4 : 0 ≤ (ji3)
 ·
  rw [if_pos c4] at H
  have c4b0 := decide_eq_true c4
  clear c4
  by_cases c5 : (ji3) < (l1.length : Int)
  ·
   rw [if_pos c5] at H
   have c5b0 := decide_eq_true c5
   clear c5
   obtain ⟨t186, A60, H⟩ := zi H
   replace H : ((bignat_shiftLeft.f k l0 (IntKind.u64.wrap (t186)) (wrap64 ((l0.length : Int) + 1))).bind fun t187 => ((bignat_shiftLeft.f k l1 (IntKind.u64.wrap (t186)) (l1.length : Int)).bind fun t190 => (if 0 ≤ (wrap64 ((wrap64 ((l0.length : Int) - (l1.length : Int))) + 1)) then (if (wrap64 ((wrap64 ((l0.length : Int) - (l1.length : Int))) + 1) : Int).toNat ≤ 70368744177664 then (if (ji3) < (t190.length : Int) then (if 0 ≤ (wrap64 ((l1.length : Int) - 2)) then (if (wrap64 ((l1.length : Int) - 2)) < (t190.length : Int) then (bignat_divLong.l0 k (l1.length : Int) (IntKind.u64.wrap (t186)) t187 t190 (List.replicate (wrap64 ((wrap64 ((l0.length : Int) - (l1.length : Int))) + 1) : Int).toNat 0) (IntKind.u64.wrap (rd t190 (ji3))) (IntKind.u64.wrap (rd t190 (wrap64 ((l1.length : Int) - 2)))) (wrap64 ((l0.length : Int) - (l1.length : Int)))) else (none)) else (none)) else (none)) else (none)) else (none)))) = some (r1, r2) := H
   have A6 := zA A60
   clear A60
   obtain ⟨t187, A70, H⟩ := zi H
   replace H : ((bignat_shiftLeft.f k l1 (IntKind.u64.wrap (t186)) (l1.length : Int)).bind fun t190 => (if 0 ≤ (wrap64 ((wrap64 ((l0.length : Int) - (l1.length : Int))) + 1)) then (if (wrap64 ((wrap64 ((l0.length : Int) - (l1.length : Int))) + 1) : Int).toNat ≤ 70368744177664 then (if (ji3) < (t190.length : Int) then (if 0 ≤ (wrap64 ((l1.length : Int) - 2)) then (if (wrap64 ((l1.length : Int) - 2)) < (t190.length : Int) then (bignat_divLong.l0 k (l1.length : Int) (IntKind.u64.wrap (t186)) t187 t190 (List.replicate (wrap64 ((wrap64 ((l0.length : Int) - (l1.length : Int))) + 1) : Int).toNat 0) (IntKind.u64.wrap (rd t190 (ji3))) (IntKind.u64.wrap (rd t190 (wrap64 ((l1.length : Int) - 2)))) (wrap64 ((l0.length : Int) - (l1.length : Int)))) else (none)) else (none)) else (none)) else (none)) else (none))) = some (r1, r2) := H
   have A7 := zA A70
   clear A70
   obtain ⟨t190, A80, H⟩ := zi H
   replace H : (if 0 ≤ (wrap64 ((wrap64 ((l0.length : Int) - (l1.length : Int))) + 1)) then (if (wrap64 ((wrap64 ((l0.length : Int) - (l1.length : Int))) + 1) : Int).toNat ≤ 70368744177664 then (if (ji3) < (t190.length : Int) then (if 0 ≤ (wrap64 ((l1.length : Int) - 2)) then (if (wrap64 ((l1.length : Int) - 2)) < (t190.length : Int) then (bignat_divLong.l0 k (l1.length : Int) (IntKind.u64.wrap (t186)) t187 t190 (List.replicate (wrap64 ((wrap64 ((l0.length : Int) - (l1.length : Int))) + 1) : Int).toNat 0) (IntKind.u64.wrap (rd t190 (ji3))) (IntKind.u64.wrap (rd t190 (wrap64 ((l1.length : Int) - 2)))) (wrap64 ((l0.length : Int) - (l1.length : Int)))) else (none)) else (none)) else (none)) else (none)) else (none)) = some (r1, r2) := H
   have A8 := zA A80
   clear A80
   obtain ⟨ji9, hji9⟩ : ∃ j_ : Int, (wrap64 ((wrap64 ((l0.length : Int) - (l1.length : Int))) + 1)) = j_ := ⟨_, rfl⟩
   replace H : (if 0 ≤ (ji9) then (if (ji9 : Int).toNat ≤ 70368744177664 then (if (ji3) < (t190.length : Int) then (if 0 ≤ (wrap64 ((l1.length : Int) - 2)) then (if (wrap64 ((l1.length : Int) - 2)) < (t190.length : Int) then (bignat_divLong.l0 k (l1.length : Int) (IntKind.u64.wrap (t186)) t187 t190 (List.replicate (ji9 : Int).toNat 0) (IntKind.u64.wrap (rd t190 (ji3))) (IntKind.u64.wrap (rd t190 (wrap64 ((l1.length : Int) - 2)))) (wrap64 ((l0.length : Int) - (l1.length : Int)))) else (none)) else (none)) else (none)) else (none)) else (none)) = some (r1, r2) := by first | (rw [hji9] at H; exact H) | (simp only [hji9] at H ⊢; exact H)
   (try rw [hji9] at A6)
   (try rw [hji9] at A7)
   (try rw [hji9] at A8)
   have hji9w : (IntKind.i64.wrap ((wrap64 ((l0.length : Int) - (l1.length : Int))) + 1)) = ji9 := (i64_w _).trans hji9
   (try (have hji9r := hji9; simp only [hji3] at hji9r))
   (try (have hji9wr := hji9w; simp only [hji3] at hji9wr))
   by_cases c10 : 0 ≤ (ji9)
   ·
    rw [if_pos c10] at H
    have c10b0 := eq_true c10
    have c10b1 := decide_eq_true c10
    clear c10
    by_cases c11 : (ji9 : Int).toNat ≤ 70368744177664
    ·
     rw [if_pos c11] at H
     have c11b0 := eq_true c11
     have c11b1 := decide_eq_true c11
     clear c11
     obtain ⟨y193, hy193⟩ : ∃ y_ : List Int, y_ = (List.replicate (ji9 : Int).toNat 0) := ⟨_, rfl⟩
     replace H : (if (ji3) < (t190.length : Int) then (if 0 ≤ (wrap64 ((l1.length : Int) - 2)) then (if (wrap64 ((l1.length : Int) - 2)) < (t190.length : Int) then (bignat_divLong.l0 k (l1.length : Int) (IntKind.u64.wrap (t186)) t187 t190 y193 (IntKind.u64.wrap (rd t190 (ji3))) (IntKind.u64.wrap (rd t190 (wrap64 ((l1.length : Int) - 2)))) (wrap64 ((l0.length : Int) - (l1.length : Int)))) else (none)) else (none)) else (none)) = some (r1, r2) := by first | (rw [hy193]; with_reducible exact H) | (have H2_ := (Option.bind_some _ _).symm.trans H; rw [hy193]; with_reducible exact H2_) | (have H2_ := (Option.bind_some _ _).symm.trans H; with_reducible exact H2_) | with_reducible exact H | (rw [hy193]; exact H) | exact H
     have Ny193 := zA hy193
     clear hy193
     by_cases c12 : (ji3) < (t190.length : Int)
     ·
      rw [if_pos c12] at H
      have c12b0 := decide_eq_true c12
      clear c12
      obtain ⟨ji13, hji13⟩ : ∃ j_ : Int, (wrap64 ((l1.length : Int) - 2)) = j_ := ⟨_, rfl⟩
      replace H : (if 0 ≤ (ji13) then (if (ji13) < (t190.length : Int) then (bignat_divLong.l0 k (l1.length : Int) (IntKind.u64.wrap (t186)) t187 t190 y193 (IntKind.u64.wrap (rd t190 (ji3))) (IntKind.u64.wrap (rd t190 (ji13))) (wrap64 ((l0.length : Int) - (l1.length : Int)))) else (none)) else (none)) = some (r1, r2) := by first | (rw [hji13] at H; exact H) | (simp only [hji13] at H ⊢; exact H)
      (try rw [hji13] at A6)
      (try rw [hji13] at A7)
      (try rw [hji13] at A8)
      have hji13w : (IntKind.i64.wrap ((l1.length : Int) - 2)) = ji13 := (i64_w _).trans hji13
      (try (have hji13r := hji13; simp only [hji3, hji9] at hji13r))
      (try (have hji13wr := hji13w; simp only [hji3, hji9] at hji13wr))
      by_cases c14 : 0 ≤ (ji13)
      ·
       rw [if_pos c14] at H
       have c14b0 := decide_eq_true c14
       clear c14
       by_cases c15 : (ji13) < (t190.length : Int)
       ·
        rw [if_pos c15] at H
        have c15b0 := decide_eq_true c15
        clear c15
        have H' := zA H
        clear H
        have p185 : 0 ≤ ((ji3) : Int) := zD
        have q185 : (ji3) < (l1.length : Int) := zD
        obtain ⟨ad185, e185, hx185_0⟩ := Kd.at_int HR1.out (ji3) p185 q185
        cases e185
        replace p185 := eq_true p185
        replace q185 := eq_true q185
        go_enter Tryd.func91, Tryd.ntmps91
        try go_wp2_with (first | ((with_reducible refine gate_callee (f := 102) rfl ?_); refine goesL_ (some 26) rfl rfl Tryd.func102 zk rfl #[.int .u32 (rd l1 (ji3))] rfl (by (try simp only [List.map_toArray, List.map_cons, List.map_nil]); first | done | (simp only [hji3]; rfl) | rfl | (simp only [List.length_drop, List.length_take]; rfl) | (go_simp; done) | (go_simp; rfl) | (go_simp; (try simp only [IntKind.wrap_u8, IntKind.wrap_u32, IntKind.wrap_u64]); omega)) ?_; (with_reducible refine (bits_LeadingZeros32.calls (rd l1 (ji3)) t186 _ A6.out).mono ?_); rintro e w' ⟨rfl, ⟨nd, rfl⟩⟩; refine ⟨_, rfl, ?_⟩) | ((with_reducible refine gate_callee (f := 103) rfl ?_); refine goesL_ (some 33) rfl rfl Tryd.func103 zk rfl #[.slice A0 l0.length c0, .int .u64 (IntKind.u64.wrap (t186)), .int .i64 (wrap64 ((l0.length : Int) + 1))] rfl (by (try simp only [List.map_toArray, List.map_cons, List.map_nil]); first | done | rfl | (simp only [List.length_drop, List.length_take]; rfl) | (go_simp; done) | (go_simp; rfl) | (go_simp; (try simp only [IntKind.wrap_u8, IntKind.wrap_u32, IntKind.wrap_u64]); omega)) ?_; (with_reducible refine (bignat_shiftLeft.calls k _ _ l0 (IntKind.u64.wrap (t186)) (wrap64 ((l0.length : Int) + 1)) t187 _ ?side1 ?side2 A7.out).mono ?_); (case side1 => repeat (first | exact HR0.out | (with_reducible refine Kd.C_alloc ?_ _) | (with_reducible refine Kd.C_drewN ?_ _) | (with_reducible refine Kd.C_drew ?_))); (case side2 => exact HC0.out); rintro e w16 ⟨v188, rfl, ho0, hb⟩; refine ⟨_, rfl, ?_⟩; have HO189 := zA (Kd.R_lower ho0 (below_size zH)); replace HB := zA (below_step zH hb); (try clear hb); (try clear hb2); (try clear hk); (try clear hi); (try clear ho0)) | ((with_reducible refine gate_callee (f := 103) rfl ?_); refine goesL_ (some 37) rfl rfl Tryd.func103 zk rfl #[.slice (some ad185) l1.length c1, .int .u64 (IntKind.u64.wrap (t186)), .int .i64 (l1.length : Int)] rfl (by (try simp only [List.map_toArray, List.map_cons, List.map_nil]); first | done | rfl | (simp only [List.length_drop, List.length_take]; rfl) | (go_simp; done) | (go_simp; rfl) | (go_simp; (try simp only [IntKind.wrap_u8, IntKind.wrap_u32, IntKind.wrap_u64]); omega)) ?_; (with_reducible refine (bignat_shiftLeft.calls k _ _ l1 (IntKind.u64.wrap (t186)) (l1.length : Int) t190 _ ?side1 ?side2 A8.out).mono ?_); (case side1 => repeat (first | exact (Kd.C_below HR1.out HB.out) | (with_reducible refine Kd.C_alloc ?_ _) | (with_reducible refine Kd.C_drewN ?_ _) | (with_reducible refine Kd.C_drew ?_))); (case side2 => exact HC1.out); rintro e w17 ⟨v191, rfl, ho0, hb⟩; refine ⟨_, rfl, ?_⟩; have HO192 := zA (Kd.R_lower (Kd.R_new' ho0 (Kd.R_lt (zR HO189.out))) (below_size zH)); replace HO189 := zA (Kd.R_elder' (zR HO189.out) (Kd.R_base ho0) hb); replace HB := zA (below_step zH hb); (try clear hb); (try clear hb2); (try clear hk); (try clear hi); (try clear ho0)) | ((with_reducible refine gate_dst (N := 43) rfl ?_); refine Kd.R_make (Kd.int .u32) _ 37 rfl (N := 43) rfl 23 _ _ rfl ji9 rfl rfl Tryd.underlying23 (.int .u32 0) 4 info37 rfl (by decide) (by omega) 0 (ok := fun _ => True) (okp := fun _ => True) rfl (fun _ hk => hk) trivial zD (Nat.le_trans (Nat.mul_le_mul_right _ (zD : ji9.toNat ≤ 70368744177664)) (by omega)) (Below.refl _ _) (Nat.le_refl _) ?_; intro v194 w18 ho19 hb hg_ hnew_; clear hg_ hnew_; (first | rw [← Ny193.out] at ho19 | (simp only [Int.reduceToNat] at ho19; rw [← Ny193.out] at ho19)); have HO195 := zA (Kd.R_lower (Kd.R_new' (Kd.R_new' ho19 (Kd.R_lt (zR HO189.out))) (Kd.R_lt (zR HO192.out))) (below_size zH)); replace HO189 := zA (Kd.R_elder' (zR HO189.out) (Kd.R_base ho19) hb); replace HO192 := zA (Kd.R_elder' (zR HO192.out) (Kd.R_base ho19) hb); replace HB := zA (below_step zH hb); clear hb ho19))
        replace HO189 := zA (Kd.R_drew HO189.out)
        replace HO192 := zA (Kd.R_drew HO192.out)
        replace HO195 := zA (Kd.R_drew HO195.out)
        replace HB := zA (below_drew1 HB.out)
        obtain ⟨Ao21, co21, eo21⟩ := Kd.R_slice HO192.out
        (first | subst eo21 | (injection eo21 with f1_ f2_ f3_; have f4_ := f1_.symm; have f5_ := f3_.symm; clear f1_ f2_ f3_; subst f4_; subst f5_))
        have p196 : 0 ≤ ((ji3) : Int) := zD
        have q196 : (ji3) < (t190.length : Int) := zD
        obtain ⟨ad196, e196, hx196_0⟩ := Kd.at_int (Kd.R_reads' HO192.out).2.2 (ji3) p196 q196
        cases e196
        replace p196 := eq_true p196
        replace q196 := eq_true q196
        have p197 : 0 ≤ ((ji13) : Int) := zD
        have q197 : (ji13) < (t190.length : Int) := zD
        obtain ⟨ad197, e197, hx197_0⟩ := Kd.at_int (Kd.R_reads' HO192.out).2.2 (ji13) p197 q197
        obtain rfl : ad196 = ad197 := (by injection e197)
        replace p197 := eq_true p197
        replace q197 := eq_true q197
        refine start_ (n := 14) (S := fun w' => w'.cell? (ad196.add ((ji3)).toNat) = some (.int .u32 (rd t190 (ji3))) ∧ w'.cell? (ad196.add ((ji13)).toNat) = some (.int .u32 (rd t190 (ji13)))) (ds := []) #[false, false, false, false, false, false, false, false, false, false, false, false, false, false] zk rfl rfl ⟨hx196_0, hx197_0⟩ (fun hHeld => ?_); refine with_tabW bignat_divLong.tab6 bignat_divLong.bits6 (fun HT_ HW_ => ?_)
        generalize w18.drew = w20 at HO189 HO192 HO195 HB hx196_0 hx197_0 hHeld ⊢
        refine zp 0 44 HT_ ?_
        refine zp 1 45 HT_ ?_
        refine zp 2 46 HT_ ?_
        refine zp 3 47 HT_ ?_
        refine zp 6 50 HT_ ?_
        refine zp 7 51 HT_ ?_
        refine zp 8 52 HT_ ?_
        refine zp 9 53 HT_ ?_
        refine take_ (i := 4) (N := some 48) (v := ?_) (a' := ?_) #[true, true, true, true, true, false, true, true, true, true, false, false, false, false] rfl rfl (take_ofW HT_.out HW_.out zk) (fun _ _ _ h => h) (Or.inl ⟨by rfl, ?_⟩) hHeld ?_ ?_
        rotate_left
        ·
         rintro w' ⟨s0, s1⟩
         go_simp
         with_reducible rfl
        rotate_left
        ·
         simp only [Act.put, List.setIfInBounds_toArray, List.set_cons_zero, List.set_cons_succ, i64_w, i32_w]
         rfl
        refine zp 5 49 HT_ ?_
        refine zp 12 11 HT_ ?_
        refine take_ (i := 10) (N := some 54) (v := ?_) (a' := ?_) #[true, true, true, true, true, true, true, true, true, true, true, false, true, false] rfl rfl (take_ofW HT_.out HW_.out zk) (fun _ _ _ h => h) (Or.inl ⟨by rfl, ?_⟩) hHeld ?_ ?_
        rotate_left
        ·
         rintro w' ⟨s0, s1⟩
         go_simp
         with_reducible rfl
        rotate_left
        ·
         simp only [Act.put, List.setIfInBounds_toArray, List.set_cons_zero, List.set_cons_succ, i64_w, i32_w]
         rfl
        refine zp 11 55 HT_ ?_
        refine zp 13 12 HT_ ?_
        refine done_ (done_of HT_.out zk) ?_
        try go_wp2
        go_loopg [13] k (fun kq v13 w' => ∃ (x8_1 : List Int) (x10_1 : List Int) (x13_1 : Int), v13 = .int .i64 x13_1 ∧ Aside0 (bignat_divLong.l0 kq (l1.length : Int) (IntKind.u64.wrap (t186)) x8_1 t190 x10_1 (IntKind.u64.wrap (rd t190 (ji3))) (IntKind.u64.wrap (rd t190 (ji13))) x13_1 = some (r1, r2)) ∧ Aside0 (kq ≤ k) ∧ Aside0 (Kd.R (Kd.int .u32) 37 w' w.heap.size (fun k_ => some k_ ≠ ((.slice (some ad196) t190.length co21) : Value).ownBlock ∧ some k_ ≠ (v194 : Value).ownBlock) v188 x8_1) ∧ Aside0 (Kd.R (Kd.int .u32) 37 w' w.heap.size (fun k_ => some k_ ≠ (v188 : Value).ownBlock ∧ some k_ ≠ (v194 : Value).ownBlock) (.slice (some ad196) t190.length co21) t190) ∧ Aside0 (Kd.R (Kd.int .u32) 37 w' w.heap.size (fun k_ => some k_ ≠ (v188 : Value).ownBlock ∧ some k_ ≠ ((.slice (some ad196) t190.length co21) : Value).ownBlock) v194 x10_1) ∧ Aside0 (Below w.heap.size w w'))
        case atStart => exact ⟨(t187), (y193), (wrap64 ((l0.length : Int) - (l1.length : Int))), zT, H', ⟨Nat.le_refl _⟩, ⟨zRM HO189.out (fun _ hk => ⟨hk.1.2, hk.2⟩)⟩, ⟨zRM HO192.out (fun _ hk => ⟨hk.1.2, hk.2⟩)⟩, ⟨zRM HO195.out (fun _ hk => ⟨hk.1.2, hk.2⟩)⟩, ⟨zH⟩⟩
        case round =>
         clear H'
         try clear c1
         try clear p1
         try clear q1
         try clear hx1
         try clear p2
         try clear c4
         try clear c4b0
         try clear c5
         try clear c5b0
         try clear p6
         try clear c9
         try clear c10
         try clear c10b0
         try clear c10b1
         try clear c11
         try clear c11b0
         try clear c11b1
         try clear c12
         try clear c12b0
         try clear c14
         try clear c14b0
         try clear c15
         try clear c15b0
         try clear p18
         try clear q18
         try clear hx18
         try clear p19
         try clear q19
         try clear hx19
         try clear hx185_0
         try clear hx196_0
         try clear hx197_0
         try clear p185
         try clear p196
         try clear p197
         try clear q185
         try clear q196
         try clear q197
         obtain ⟨x8_1, x10_1, x13_1, rfl, HA, HK1, HO_8, HO_9, HO_10, HB⟩ := hrel
         cases gk with
         | zero => exact absurd HA.out (by simp [bignat_divLong.l0])
         | succ k1 =>
          have H := HA.out
          clear HA
          simp only [bignat_divLong.l0] at H
          by_cases c22 : x13_1 ≥ 0
          ·
           rw [if_pos c22] at H
           have c22b0 : decide (0 ≤ x13_1) = true := decide_eq_true c22
           clear c22
           obtain ⟨ji23, hji23⟩ : ∃ j_ : Int, (wrap64 (x13_1 + (l1.length : Int))) = j_ := ⟨_, rfl⟩
           replace H : (if 0 ≤ (ji23) then (if (ji23) < (x8_1.length : Int) then (if 0 ≤ (wrap64 ((ji23) - 1)) then (if (wrap64 ((ji23) - 1)) < (x8_1.length : Int) then (if (IntKind.u64.wrap (rd t190 (ji3))) = 0 then (none) else (bignat_divLong.l1 k1 (l1.length : Int) (IntKind.u64.wrap (t186)) x8_1 t190 x10_1 (IntKind.u64.wrap (rd t190 (ji3))) (IntKind.u64.wrap (rd t190 (ji13))) x13_1 (IntKind.u64.wrap (Int.tdiv (Go.bits .or .u64 (IntKind.u64.wrap ((IntKind.u64.wrap (rd x8_1 (ji23))) * 4294967296)) (IntKind.u64.wrap (rd x8_1 (wrap64 ((ji23) - 1))))) (IntKind.u64.wrap (rd t190 (ji3))))) (Int.tmod (Go.bits .or .u64 (IntKind.u64.wrap ((IntKind.u64.wrap (rd x8_1 (ji23))) * 4294967296)) (IntKind.u64.wrap (rd x8_1 (wrap64 ((ji23) - 1))))) (IntKind.u64.wrap (rd t190 (ji3)))))) else (none)) else (none)) else (none)) else (none)) = some (r1, r2) := by first | (rw [hji23] at H; exact H) | (simp only [hji23] at H ⊢; exact H)
           have hji23w : (IntKind.i64.wrap (x13_1 + (l1.length : Int))) = ji23 := (i64_w _).trans hji23
           (try (have hji23r := hji23; simp only [hji3, hji9, hji13] at hji23r))
           (try (have hji23wr := hji23w; simp only [hji3, hji9, hji13] at hji23wr))
           by_cases c24 : 0 ≤ (ji23)
           ·
            rw [if_pos c24] at H
            have c24b0 := decide_eq_true c24
            clear c24
            by_cases c25 : (ji23) < (x8_1.length : Int)
            ·
             rw [if_pos c25] at H
             have c25b0 := decide_eq_true c25
             clear c25
             obtain ⟨ji26, hji26⟩ : ∃ j_ : Int, (wrap64 ((ji23) - 1)) = j_ := ⟨_, rfl⟩
             replace H : (if 0 ≤ (ji26) then (if (ji26) < (x8_1.length : Int) then (if (IntKind.u64.wrap (rd t190 (ji3))) = 0 then (none) else (bignat_divLong.l1 k1 (l1.length : Int) (IntKind.u64.wrap (t186)) x8_1 t190 x10_1 (IntKind.u64.wrap (rd t190 (ji3))) (IntKind.u64.wrap (rd t190 (ji13))) x13_1 (IntKind.u64.wrap (Int.tdiv (Go.bits .or .u64 (IntKind.u64.wrap ((IntKind.u64.wrap (rd x8_1 (ji23))) * 4294967296)) (IntKind.u64.wrap (rd x8_1 (ji26)))) (IntKind.u64.wrap (rd t190 (ji3))))) (Int.tmod (Go.bits .or .u64 (IntKind.u64.wrap ((IntKind.u64.wrap (rd x8_1 (ji23))) * 4294967296)) (IntKind.u64.wrap (rd x8_1 (ji26)))) (IntKind.u64.wrap (rd t190 (ji3)))))) else (none)) else (none)) = some (r1, r2) := by first | (rw [hji26] at H; exact H) | (simp only [hji26] at H ⊢; exact H)
             have hji26w : (IntKind.i64.wrap ((ji23) - 1)) = ji26 := (i64_w _).trans hji26
             (try (have hji26r := hji26; simp only [hji3, hji9, hji13, hji23] at hji26r))
             (try (have hji26wr := hji26w; simp only [hji3, hji9, hji13, hji23] at hji26wr))
             by_cases c27 : 0 ≤ (ji26)
             ·
              rw [if_pos c27] at H
              have c27b0 := decide_eq_true c27
              clear c27
              by_cases c28 : (ji26) < (x8_1.length : Int)
              ·
               rw [if_pos c28] at H
               have c28b0 := decide_eq_true c28
               clear c28
               by_cases c29 : (IntKind.u64.wrap (rd t190 (ji3))) = 0
               ·
                rw [if_pos c29] at H
                cases H
               rw [if_neg c29] at H
               have c29b0 := beq_eq_false_iff_ne.mpr c29
               have c29b1 := bne_iff_ne.mpr c29
               have HC30 := zA H
               clear H
               try go_wp2
               replace HO_8 := zA (Kd.R_drew HO_8.out)
               replace HO_9 := zA (Kd.R_drew HO_9.out)
               replace HO_10 := zA (Kd.R_drew HO_10.out)
               replace HB := zA (below_drew1 HB.out)
               obtain ⟨Ao32, co32, eo32⟩ := Kd.R_slice HO_8.out
               (first | subst eo32 | (injection eo32 with f1_ f2_ f3_; have f4_ := f1_.symm; have f5_ := f3_.symm; clear f1_ f2_ f3_; subst f4_; subst f5_))
               have p198 : 0 ≤ ((ji23) : Int) := zD
               have q198 : (ji23) < (x8_1.length : Int) := zD
               obtain ⟨ad198, e198, hx198_0⟩ := Kd.at_int (Kd.R_reads' HO_8.out).2.2 (ji23) p198 q198
               cases e198
               replace p198 := eq_true p198
               replace q198 := eq_true q198
               have p199 : 0 ≤ ((ji26) : Int) := zD
               have q199 : (ji26) < (x8_1.length : Int) := zD
               obtain ⟨ad199, e199, hx199_0⟩ := Kd.at_int (Kd.R_reads' HO_8.out).2.2 (ji26) p199 q199
               obtain rfl : ad198 = ad199 := (by injection e199)
               replace p199 := eq_true p199
               replace q199 := eq_true q199
               refine start_ (n := 18) (S := fun w' => w'.cell? (ad198.add ((ji23)).toNat) = some (.int .u32 (rd x8_1 (ji23))) ∧ w'.cell? (ad198.add ((ji26)).toNat) = some (.int .u32 (rd x8_1 (ji26)))) (ds := []) #[false, false, false, false, false, false, false, false, false, false, false, false, false, false, false, false, false, false] zk rfl rfl ⟨hx198_0, hx199_0⟩ (fun hHeld => ?_); refine with_tabW bignat_divLong.tab10 bignat_divLong.bits10 (fun HT_ HW_ => ?_)
               generalize wr.drew = w31 at HO_8 HO_9 HO_10 HB hx198_0 hx199_0 hHeld ⊢
               refine zp 0 64 HT_ ?_
               refine zp 1 65 HT_ ?_
               refine zp 2 66 HT_ ?_
               refine zp 3 67 HT_ ?_
               refine zp 4 68 HT_ ?_
               refine zp 8 72 HT_ ?_
               refine zp 9 73 HT_ ?_
               refine zp 10 74 HT_ ?_
               refine zp 11 75 HT_ ?_
               refine zp 12 76 HT_ ?_
               refine zp 13 77 HT_ ?_
               refine take_ (i := 5) (N := some 69) (v := ?_) (a' := ?_) #[true, true, true, true, true, true, false, false, true, true, true, true, true, true, false, false, false, false] rfl rfl (take_ofW HT_.out HW_.out zk) (fun _ _ _ h => h) (Or.inl ⟨by rfl, ?_⟩) hHeld ?_ ?_
               rotate_left
               ·
                rintro w' ⟨s0, s1⟩
                go_simp
                with_reducible rfl
               rotate_left
               ·
                simp only [Act.put, List.setIfInBounds_toArray, List.set_cons_zero, List.set_cons_succ, i64_w, i32_w]
                rfl
               refine zp 6 70 HT_ ?_
               refine zp 7 71 HT_ ?_
               refine take_ (i := 14) (N := some 78) (v := ?_) (a' := ?_) #[true, true, true, true, true, true, true, true, true, true, true, true, true, true, true, false, false, false] rfl rfl (take_ofW HT_.out HW_.out zk) (fun _ _ _ h => h) (Or.inl ⟨by rfl, ?_⟩) hHeld ?_ ?_
               rotate_left
               ·
                rintro w' ⟨s0, s1⟩
                go_simp
                with_reducible rfl
               rotate_left
               ·
                simp only [Act.put, List.setIfInBounds_toArray, List.set_cons_zero, List.set_cons_succ, i64_w, i32_w]
                rfl
               refine zp 15 79 HT_ ?_
               refine zp 16 80 HT_ ?_
               refine zp 17 14 HT_ ?_
               refine done_ (done_of HT_.out zk) ?_
               try go_wp2
               replace HO_8 := zA (Kd.R_drew HO_8.out)
               replace HO_9 := zA (Kd.R_drew HO_9.out)
               replace HO_10 := zA (Kd.R_drew HO_10.out)
               replace HB := zA (below_drew1 HB.out)
               refine start_ (n := 8) (S := fun w' => True) (ds := []) #[false, false, false, false, false, false, false, false] zk rfl rfl trivial (fun hHeld => ?_); refine with_tabW bignat_divLong.tab11 bignat_divLong.bits11 (fun HT_ HW_ => ?_)
               generalize w31.drew = w33 at HO_8 HO_9 HO_10 HB hHeld ⊢
               refine zp 0 81 HT_ ?_
               refine zp 1 82 HT_ ?_
               refine zp 2 83 HT_ ?_
               refine zp 3 84 HT_ ?_
               refine zp 4 85 HT_ ?_
               refine zp 5 86 HT_ ?_
               refine zp 6 15 HT_ ?_
               refine zp 7 16 HT_ ?_
               refine done_ (done_of HT_.out zk) ?_
               go_upto_block 2 with (fail)
               go_cut [15] (fun v15 wc => ∃ (kq : Nat) (x15_29 : Int), v15 = .int .u64 x15_29 ∧ Aside0 (bignat_divLong.j3 kq (l1.length : Int) (IntKind.u64.wrap (t186)) x8_1 t190 x10_1 (IntKind.u64.wrap (rd t190 (ji3))) (IntKind.u64.wrap (rd t190 (ji13))) x13_1 x15_29 = some (r1, r2)) ∧ Aside0 (kq ≤ k1) ∧ Aside0 (Kd.R (Kd.int .u32) 37 wc w.heap.size (fun k_ => some k_ ≠ ((.slice (some ad196) t190.length co21) : Value).ownBlock ∧ some k_ ≠ (v194 : Value).ownBlock) (.slice (some ad198) x8_1.length co32) x8_1) ∧ Aside0 (Kd.R (Kd.int .u32) 37 wc w.heap.size (fun k_ => some k_ ≠ ((.slice (some ad198) x8_1.length co32) : Value).ownBlock ∧ some k_ ≠ (v194 : Value).ownBlock) (.slice (some ad196) t190.length co21) t190) ∧ Aside0 (Kd.R (Kd.int .u32) 37 wc w.heap.size (fun k_ => some k_ ≠ ((.slice (some ad198) x8_1.length co32) : Value).ownBlock ∧ some k_ ≠ ((.slice (some ad196) t190.length co21) : Value).ownBlock) v194 x10_1) ∧ Aside0 (Below w.heap.size w wc))
               case first =>
                have H := HC30.out
                clear HC30
                have H' := zA H
                clear H
                go_wp2
                go_loopg [15, 16] k1 (fun kq v15 v16 w' => ∃ (x15_2 : Int) (x16_2 : Int), v15 = .int .u64 x15_2 ∧ v16 = .int .u64 x16_2 ∧ Aside0 (bignat_divLong.l1 kq (l1.length : Int) (IntKind.u64.wrap (t186)) x8_1 t190 x10_1 (IntKind.u64.wrap (rd t190 (ji3))) (IntKind.u64.wrap (rd t190 (ji13))) x13_1 x15_2 x16_2 = some (r1, r2)) ∧ Aside0 (kq ≤ k1) ∧ Aside0 (Kd.R (Kd.int .u32) 37 w' w.heap.size (fun k_ => some k_ ≠ ((.slice (some ad196) t190.length co21) : Value).ownBlock ∧ some k_ ≠ (v194 : Value).ownBlock) (.slice (some ad198) x8_1.length co32) x8_1) ∧ Aside0 (Kd.R (Kd.int .u32) 37 w' w.heap.size (fun k_ => some k_ ≠ ((.slice (some ad198) x8_1.length co32) : Value).ownBlock ∧ some k_ ≠ (v194 : Value).ownBlock) (.slice (some ad196) t190.length co21) t190) ∧ Aside0 (Kd.R (Kd.int .u32) 37 w' w.heap.size (fun k_ => some k_ ≠ ((.slice (some ad198) x8_1.length co32) : Value).ownBlock ∧ some k_ ≠ ((.slice (some ad196) t190.length co21) : Value).ownBlock) v194 x10_1) ∧ Aside0 (Below w.heap.size w w'))
                case atStart => exact ⟨(IntKind.u64.wrap (Int.tdiv (Go.bits .or .u64 (IntKind.u64.wrap ((IntKind.u64.wrap (rd x8_1 (ji23))) * 4294967296)) (IntKind.u64.wrap (rd x8_1 (ji26)))) (IntKind.u64.wrap (rd t190 (ji3))))), (Int.tmod (Go.bits .or .u64 (IntKind.u64.wrap ((IntKind.u64.wrap (rd x8_1 (ji23))) * 4294967296)) (IntKind.u64.wrap (rd x8_1 (ji26)))) (IntKind.u64.wrap (rd t190 (ji3)))), (by first | rfl | (simp; done) | (simp only [← hji3, ← hji23, ← hji26] <;> (first | rfl | simp)) | (simp [*]; done)), (by first | rfl | (simp; done) | (simp only [← hji3, ← hji23, ← hji26] <;> (first | rfl | simp)) | (simp [*]; done)), H', ⟨Nat.le_refl _⟩, ⟨zR HO_8.out⟩, ⟨zR HO_9.out⟩, ⟨zR HO_10.out⟩, ⟨zH⟩⟩
                case round =>
                 clear H'
                 try clear c1
                 try clear p1
                 try clear q1
                 try clear hx1
                 try clear c2
                 try clear p2
                 try clear c4
                 try clear c4b0
                 try clear c5
                 try clear c5b0
                 try clear p6
                 try clear c9
                 try clear c10
                 try clear c10b0
                 try clear c10b1
                 try clear c11
                 try clear c11b0
                 try clear c11b1
                 try clear c12
                 try clear c12b0
                 try clear c14
                 try clear c14b0
                 try clear c15
                 try clear c15b0
                 try clear p18
                 try clear q18
                 try clear hx18
                 try clear p19
                 try clear q19
                 try clear hx19
                 try clear c22
                 try clear c22b0
                 try clear c24
                 try clear c24b0
                 try clear c25
                 try clear c25b0
                 try clear c27
                 try clear c27b0
                 try clear c28
                 try clear c28b0
                 try clear c29
                 try clear c29b0
                 try clear c29b1
                 try clear hx185_0
                 try clear hx196_0
                 try clear hx197_0
                 try clear hx198_0
                 try clear hx199_0
                 try clear p1
                 try clear p18
                 try clear p185
                 try clear p19
                 try clear p196
                 try clear p197
                 try clear p198
                 try clear p199
                 try clear p2
                 try clear p6
                 try clear q1
                 try clear q18
                 try clear q185
                 try clear q19
                 try clear q196
                 try clear q197
                 try clear q198
                 try clear q199
                 obtain ⟨x15_2, x16_2, rfl, rfl, HA, HK2, HO_8, HO_9, HO_10, HB⟩ := hrel
                 cases gk with
                 | zero => exact absurd HA.out (by simp [bignat_divLong.l1])
                 | succ k2 =>
                  have H := HA.out
                  clear HA
                  simp only [bignat_divLong.l1] at H
                  have HC34 := zA H
                  clear H
                  go_upto_region 12 with (fail)
                  go_cut [106] (fun v106 wc => ∃ (kq : Nat) (x106_33 : Bool), v106 = .bool x106_33 ∧ Aside0 (bignat_divLong.j2 kq (l1.length : Int) (IntKind.u64.wrap (t186)) x8_1 t190 x10_1 (IntKind.u64.wrap (rd t190 (ji3))) (IntKind.u64.wrap (rd t190 (ji13))) x13_1 x15_2 x16_2 x106_33 = some (r1, r2)) ∧ Aside0 (kq ≤ k2) ∧ Aside0 (Kd.R (Kd.int .u32) 37 wc w.heap.size (fun k_ => some k_ ≠ ((.slice (some ad196) t190.length co21) : Value).ownBlock ∧ some k_ ≠ (v194 : Value).ownBlock) (.slice (some ad198) x8_1.length co32) x8_1) ∧ Aside0 (Kd.R (Kd.int .u32) 37 wc w.heap.size (fun k_ => some k_ ≠ ((.slice (some ad198) x8_1.length co32) : Value).ownBlock ∧ some k_ ≠ (v194 : Value).ownBlock) (.slice (some ad196) t190.length co21) t190) ∧ Aside0 (Kd.R (Kd.int .u32) 37 wc w.heap.size (fun k_ => some k_ ≠ ((.slice (some ad198) x8_1.length co32) : Value).ownBlock ∧ some k_ ≠ ((.slice (some ad196) t190.length co21) : Value).ownBlock) v194 x10_1) ∧ Aside0 (Below w.heap.size w wc))
                  case first =>
                   have H := HC34.out
                   clear HC34
                   by_cases c35 : (x15_2 / 4294967296) = 0
                   ·
                    rw [if_pos c35] at H
                    have c35b0 := beq_iff_eq.mpr c35
                    have c35b1 := bne_eq_false_iff_eq.mpr c35
                    clear c35
                    (first | rw [c35b0] | rw [c35b1] | (simp only [i64_w, i32_w]; rw [c35b0]) | skip)
                    obtain ⟨ji36, hji36⟩ : ∃ j_ : Int, (wrap64 ((wrap64 (x13_1 + (l1.length : Int))) - 2)) = j_ := ⟨_, rfl⟩
                    replace H : (if 0 ≤ (ji36) then (if (ji36) < (x8_1.length : Int) then (bignat_divLong.j2 k2 (l1.length : Int) (IntKind.u64.wrap (t186)) x8_1 t190 x10_1 (IntKind.u64.wrap (rd t190 (ji3))) (IntKind.u64.wrap (rd t190 (ji13))) x13_1 x15_2 x16_2 (decide ((IntKind.u64.wrap (x15_2 * (IntKind.u64.wrap (rd t190 (ji13))))) > (Go.bits .or .u64 (IntKind.u64.wrap (x16_2 * 4294967296)) (IntKind.u64.wrap (rd x8_1 (ji36))))))) else (none)) else (none)) = some (r1, r2) := by first | (rw [hji36] at H; exact H) | (simp only [hji36] at H ⊢; exact H)
                    have hji36w : (IntKind.i64.wrap ((wrap64 (x13_1 + (l1.length : Int))) - 2)) = ji36 := (i64_w _).trans hji36
                    (try (have hji36r := hji36; simp only [hji3, hji9, hji13, hji23, hji26] at hji36r))
                    (try (have hji36wr := hji36w; simp only [hji3, hji9, hji13, hji23, hji26] at hji36wr))
                    by_cases c37 : 0 ≤ (ji36)
                    ·
                     rw [if_pos c37] at H
                     have c37b0 := decide_eq_true c37
                     clear c37
                     by_cases c38 : (ji36) < (x8_1.length : Int)
                     ·
                      rw [if_pos c38] at H
                      have c38b0 := decide_eq_true c38
                      clear c38
                      have H' := zA H
                      clear H
                      have p200 : 0 ≤ ((ji36) : Int) := zD
                      have q200 : (ji36) < (x8_1.length : Int) := zD
                      obtain ⟨ad200, e200, hx200_0⟩ := Kd.at_int (Kd.R_reads' HO_8.out).2.2 (ji36) p200 q200
                      obtain rfl : ad198 = ad200 := (by injection e200)
                      replace p200 := eq_true p200
                      replace q200 := eq_true q200
                      go_wp2
                      go_meet
                      case rel => exact ⟨_, (decide ((IntKind.u64.wrap (x15_2 * (IntKind.u64.wrap (rd t190 (ji13))))) > (Go.bits .or .u64 (IntKind.u64.wrap (x16_2 * 4294967296)) (IntKind.u64.wrap (rd x8_1 (ji36)))))), (by first | rfl | (simp; done) | (simp only [← hji13, ← hji36] <;> (first | rfl | simp)) | (simp [*]; done)), H', ⟨by have := HK1.out; have := HK2.out; first | omega | exact Nat.le_refl _⟩, ⟨zR HO_8.out⟩, ⟨zR HO_9.out⟩, ⟨zR HO_10.out⟩, ⟨zH⟩⟩
                     rw [if_neg c38] at H
                     cases H
                    rw [if_neg c37] at H
                    cases H
                   rw [if_neg c35] at H
                   have c35b0 := beq_eq_false_iff_ne.mpr c35
                   have c35b1 := bne_iff_ne.mpr c35
                   (first | rw [c35b0] | rw [c35b1] | (simp only [i64_w, i32_w]; rw [c35b0]) | skip)
                   have H' := zA H
                   clear H
                   go_wp2
                   go_meet
                   case rel => exact ⟨_, (true), zT, H', ⟨by have := HK1.out; have := HK2.out; first | omega | exact Nat.le_refl _⟩, ⟨zR HO_8.out⟩, ⟨zR HO_9.out⟩, ⟨zR HO_10.out⟩, ⟨zH⟩⟩
                  case rest =>
                   clear HC34
                   try clear c1
                   try clear p1
                   try clear q1
                   try clear hx1
                   try clear c2
                   try clear p2
                   try clear q2
                   try clear hx2
                   try clear c3
                   try clear c4
                   try clear c4b0
                   try clear c5
                   try clear c5b0
                   try clear p6
                   try clear c9
                   try clear c10
                   try clear c10b0
                   try clear c10b1
                   try clear c11
                   try clear c11b0
                   try clear c11b1
                   try clear c12
                   try clear c12b0
                   try clear c14
                   try clear c14b0
                   try clear c15
                   try clear c15b0
                   try clear p18
                   try clear q18
                   try clear hx18
                   try clear p19
                   try clear q19
                   try clear hx19
                   try clear p20
                   try clear q20
                   try clear hx20
                   try clear c22
                   try clear c22b0
                   try clear c24
                   try clear c24b0
                   try clear c25
                   try clear c25b0
                   try clear c27
                   try clear c27b0
                   try clear c28
                   try clear c28b0
                   try clear c29
                   try clear c29b0
                   try clear c29b1
                   try clear c35
                   try clear c35b0
                   try clear c35b1
                   try clear c37
                   try clear c37b0
                   try clear c38
                   try clear c38b0
                   try clear hx185_0
                   try clear hx196_0
                   try clear hx197_0
                   try clear hx198_0
                   try clear hx199_0
                   try clear hx200_0
                   try clear p1
                   try clear p18
                   try clear p185
                   try clear p19
                   try clear p196
                   try clear p197
                   try clear p198
                   try clear p199
                   try clear p2
                   try clear p200
                   try clear p6
                   try clear q1
                   try clear q18
                   try clear q185
                   try clear q19
                   try clear q196
                   try clear q197
                   try clear q198
                   try clear q199
                   try clear q200
                   obtain ⟨kq, x106_33, rfl, HA, HJ33, HO_8, HO_9, HO_10, HB⟩ := hcut
                   cases kq with
                   | zero => exact absurd HA.out (by simp [bignat_divLong.j2])
                   | succ kj33 =>
                    have H := HA.out
                    clear HA
                    simp only [bignat_divLong.j2] at H
                    by_cases c39 : x106_33 = true
                    ·
                     subst c39
                     have H1 : (if ((IntKind.u64.wrap (x16_2 + (IntKind.u64.wrap (rd t190 (ji3))))) / 4294967296) = 0 then (bignat_divLong.l1 kj33 (l1.length : Int) (IntKind.u64.wrap (t186)) x8_1 t190 x10_1 (IntKind.u64.wrap (rd t190 (ji3))) (IntKind.u64.wrap (rd t190 (ji13))) x13_1 (IntKind.u64.wrap (x15_2 - 1)) (IntKind.u64.wrap (x16_2 + (IntKind.u64.wrap (rd t190 (ji3)))))) else (bignat_divLong.j3 kj33 (l1.length : Int) (IntKind.u64.wrap (t186)) x8_1 t190 x10_1 (IntKind.u64.wrap (rd t190 (ji3))) (IntKind.u64.wrap (rd t190 (ji13))) x13_1 (IntKind.u64.wrap (x15_2 - 1)))) = some (r1, r2) := by rw [if_pos rfl] at H; exact H
                     clear H
                     have H := H1
                     clear H1
                     by_cases c40 : ((IntKind.u64.wrap (x16_2 + (IntKind.u64.wrap (rd t190 (ji3))))) / 4294967296) = 0
                     ·
                      rw [if_pos c40] at H
                      have c40b0 := beq_iff_eq.mpr c40
                      have c40b1 := bne_eq_false_iff_eq.mpr c40
                      clear c40
                      have H' := zA H
                      clear H
                      go_wp2
                      go_roundg kj33
                      case measure => have := HK1.out; have := HK2.out; have := HJ33.out; omega
                      case rel => exact ⟨(IntKind.u64.wrap (x15_2 - 1)), (IntKind.u64.wrap (x16_2 + (IntKind.u64.wrap (rd t190 (ji3))))), zT, (by first | rfl | (simp; done) | (simp only [← hji3] <;> (first | rfl | simp)) | (simp [*]; done)), H', ⟨by have := HK1.out; have := HK2.out; have := HJ33.out; omega⟩, ⟨zR HO_8.out⟩, ⟨zR HO_9.out⟩, ⟨zR HO_10.out⟩, ⟨zH⟩⟩
                     rw [if_neg c40] at H
                     have c40b0 := beq_eq_false_iff_ne.mpr c40
                     have c40b1 := bne_iff_ne.mpr c40
                     have H' := zA H
                     clear H
                     go_wp2
                     go_meet
                     case rel => exact ⟨_, (IntKind.u64.wrap (x15_2 - 1)), zT, H', ⟨by have := HK1.out; have := HK2.out; have := HJ33.out; first | omega | exact Nat.le_refl _⟩, ⟨zR HO_8.out⟩, ⟨zR HO_9.out⟩, ⟨zR HO_10.out⟩, ⟨zH⟩⟩
                    replace c39 := Bool.eq_false_iff.mpr c39
                    subst c39
                    have H1 : (bignat_divLong.j3 kj33 (l1.length : Int) (IntKind.u64.wrap (t186)) x8_1 t190 x10_1 (IntKind.u64.wrap (rd t190 (ji3))) (IntKind.u64.wrap (rd t190 (ji13))) x13_1 x15_2) = some (r1, r2) := by rw [if_neg (show ¬ (false = true) by decide)] at H; exact H
                    clear H
                    have H := H1
                    clear H1
                    have H' := zA H
                    clear H
                    go_wp2
                    go_meet
                    case rel => exact ⟨_, (x15_2), zT, H', ⟨by have := HK1.out; have := HK2.out; have := HJ33.out; first | omega | exact Nat.le_refl _⟩, ⟨zR HO_8.out⟩, ⟨zR HO_9.out⟩, ⟨zR HO_10.out⟩, ⟨zH⟩⟩
               case rest =>
                clear HC30
                try clear c1
                try clear p1
                try clear q1
                try clear hx1
                try clear c2
                try clear p2
                try clear q2
                try clear hx2
                try clear c3
                try clear c4
                try clear c4b0
                try clear c5
                try clear c5b0
                try clear p6
                try clear c9
                try clear c10
                try clear c10b0
                try clear c10b1
                try clear c11
                try clear c11b0
                try clear c11b1
                try clear c12
                try clear c12b0
                try clear c14
                try clear c14b0
                try clear c15
                try clear c15b0
                try clear p18
                try clear q18
                try clear hx18
                try clear p19
                try clear q19
                try clear hx19
                try clear p20
                try clear q20
                try clear hx20
                try clear c22
                try clear c22b0
                try clear c24
                try clear c24b0
                try clear c25
                try clear c25b0
                try clear c27
                try clear c27b0
                try clear c28
                try clear c28b0
                try clear c29
                try clear c29b0
                try clear c29b1
                try clear c35
                try clear c35b0
                try clear c35b1
                try clear c37
                try clear c37b0
                try clear c38
                try clear c38b0
                try clear c39
                try clear c40
                try clear c40b0
                try clear c40b1
                try clear hx185_0
                try clear hx196_0
                try clear hx197_0
                try clear hx198_0
                try clear hx199_0
                try clear hx200_0
                try clear p1
                try clear p18
                try clear p185
                try clear p19
                try clear p196
                try clear p197
                try clear p198
                try clear p199
                try clear p2
                try clear p20
                try clear p200
                try clear p6
                try clear q1
                try clear q18
                try clear q185
                try clear q19
                try clear q196
                try clear q197
                try clear q198
                try clear q199
                try clear q2
                try clear q20
                try clear q200
                obtain ⟨kq, x15_29, rfl, HA, HJ29, HO_8, HO_9, HO_10, HB⟩ := hcut
                cases kq with
                | zero => exact absurd HA.out (by simp [bignat_divLong.j3])
                | succ kj29 =>
                 have H := HA.out
                 clear HA
                 try clear hji23wr
                 try clear hji23r
                 try clear hji23w
                 try clear hji23
                 try clear hji26wr
                 try clear hji26r
                 try clear hji26w
                 try clear hji26
                 try clear hji36wr
                 try clear hji36r
                 try clear hji36w
                 try clear hji36
                 simp only [bignat_divLong.j3] at H
                 by_cases c41 : 0 ≤ x13_1
                 ·
                  rw [if_pos c41] at H
                  have c41b0 := eq_true c41
                  have c41b1 := decide_eq_true c41
                  clear c41
                  by_cases c42 : x13_1 ≤ (wrap64 ((wrap64 (x13_1 + (l1.length : Int))) + 1))
                  ·
                   rw [if_pos c42] at H
                   have c42b0 := eq_true c42
                   have c42b1 := decide_eq_true c42
                   by_cases c43 : (wrap64 ((wrap64 (x13_1 + (l1.length : Int))) + 1)) ≤ (x8_1.length : Int)
                   ·
                    rw [if_pos c43] at H
                    have c43b0 := eq_true c43
                    have c43b1 := decide_eq_true c43
                    obtain ⟨y201, hy201⟩ : ∃ y_ : List Int, y_ = ((x8_1.take ((wrap64 ((wrap64 (x13_1 + (l1.length : Int))) + 1)) : Int).toNat).drop (x13_1 : Int).toNat) := ⟨_, rfl⟩
                    replace H : ((bignat_subtractScaled.fp kj29 x8_1 x13_1 (wrap64 ((wrap64 (x13_1 + (l1.length : Int))) + 1)) t190 x15_29).bind fun bt205 => (if bt205.1 = true then ((bignat_addBack.fp kj29 bt205.2 x13_1 (wrap64 ((wrap64 (x13_1 + (l1.length : Int))) + 1)) t190).bind fun t211 => (if x13_1 < (x10_1.length : Int) then (bignat_divLong.l0 kj29 (l1.length : Int) (IntKind.u64.wrap (t186)) t211 t190 (x10_1.set (x13_1 : Int).toNat ((IntKind.u64.wrap (x15_29 - 1)) % 4294967296)) (IntKind.u64.wrap (rd t190 (ji3))) (IntKind.u64.wrap (rd t190 (ji13))) (wrap64 (x13_1 - 1))) else (none))) else (if x13_1 < (x10_1.length : Int) then (bignat_divLong.l0 kj29 (l1.length : Int) (IntKind.u64.wrap (t186)) bt205.2 t190 (x10_1.set (x13_1 : Int).toNat ((x15_29) % 4294967296)) (IntKind.u64.wrap (rd t190 (ji3))) (IntKind.u64.wrap (rd t190 (ji13))) (wrap64 (x13_1 - 1))) else (none)))) = some (r1, r2) := by first | (rw [hy201]; with_reducible exact H) | (have H2_ := (Option.bind_some _ _).symm.trans H; rw [hy201]; with_reducible exact H2_) | (have H2_ := (Option.bind_some _ _).symm.trans H; with_reducible exact H2_) | with_reducible exact H | (rw [hy201]; exact H) | exact H
                    have Ny201 := zA hy201
                    clear hy201
                    obtain ⟨⟨t205, t206⟩, A440, H⟩ := zi H
                    replace H : (if t205 = true then ((bignat_addBack.fp kj29 t206 x13_1 (wrap64 ((wrap64 (x13_1 + (l1.length : Int))) + 1)) t190).bind fun t211 => (if x13_1 < (x10_1.length : Int) then (bignat_divLong.l0 kj29 (l1.length : Int) (IntKind.u64.wrap (t186)) t211 t190 (x10_1.set (x13_1 : Int).toNat ((IntKind.u64.wrap (x15_29 - 1)) % 4294967296)) (IntKind.u64.wrap (rd t190 (ji3))) (IntKind.u64.wrap (rd t190 (ji13))) (wrap64 (x13_1 - 1))) else (none))) else (if x13_1 < (x10_1.length : Int) then (bignat_divLong.l0 kj29 (l1.length : Int) (IntKind.u64.wrap (t186)) t206 t190 (x10_1.set (x13_1 : Int).toNat ((x15_29) % 4294967296)) (IntKind.u64.wrap (rd t190 (ji3))) (IntKind.u64.wrap (rd t190 (ji13))) (wrap64 (x13_1 - 1))) else (none))) = some (r1, r2) := H
                    have A44 := zA A440
                    clear A440
                    by_cases c45 : t205 = true
                    ·
                     subst c45
                     have H1 : ((bignat_addBack.fp kj29 t206 x13_1 (wrap64 ((wrap64 (x13_1 + (l1.length : Int))) + 1)) t190).bind fun t211 => (if x13_1 < (x10_1.length : Int) then (bignat_divLong.l0 kj29 (l1.length : Int) (IntKind.u64.wrap (t186)) t211 t190 (x10_1.set (x13_1 : Int).toNat ((IntKind.u64.wrap (x15_29 - 1)) % 4294967296)) (IntKind.u64.wrap (rd t190 (ji3))) (IntKind.u64.wrap (rd t190 (ji13))) (wrap64 (x13_1 - 1))) else (none))) = some (r1, r2) := by rw [if_pos rfl] at H; exact H
                     clear H
                     have H := H1
                     clear H1
                     have c46b0 := eq_true (zD : 0 ≤ x13_1)
                     have c47b0 := eq_true (zD : x13_1 ≤ (wrap64 ((wrap64 (x13_1 + (l1.length : Int))) + 1)))
                     have c48b0 := eq_true (zD : (wrap64 ((wrap64 (x13_1 + (l1.length : Int))) + 1)) ≤ (x8_1.length : Int))
                     obtain ⟨y207, hy207⟩ : ∃ y_ : List Int, y_ = ((t206.take ((wrap64 ((wrap64 (x13_1 + (l1.length : Int))) + 1)) : Int).toNat).drop (x13_1 : Int).toNat) := ⟨_, rfl⟩
                     replace H : ((bignat_addBack.fp kj29 t206 x13_1 (wrap64 ((wrap64 (x13_1 + (l1.length : Int))) + 1)) t190).bind fun t211 => (if x13_1 < (x10_1.length : Int) then (bignat_divLong.l0 kj29 (l1.length : Int) (IntKind.u64.wrap (t186)) t211 t190 (x10_1.set (x13_1 : Int).toNat ((IntKind.u64.wrap (x15_29 - 1)) % 4294967296)) (IntKind.u64.wrap (rd t190 (ji3))) (IntKind.u64.wrap (rd t190 (ji13))) (wrap64 (x13_1 - 1))) else (none))) = some (r1, r2) := by first | (rw [hy207]; with_reducible exact H) | (have H2_ := (Option.bind_some _ _).symm.trans H; rw [hy207]; with_reducible exact H2_) | (have H2_ := (Option.bind_some _ _).symm.trans H; with_reducible exact H2_) | with_reducible exact H | (rw [hy207]; exact H) | exact H
                     have Ny207 := zA hy207
                     clear hy207
                     obtain ⟨t211, A490, H⟩ := zi H
                     replace H : (if x13_1 < (x10_1.length : Int) then (bignat_divLong.l0 kj29 (l1.length : Int) (IntKind.u64.wrap (t186)) t211 t190 (x10_1.set (x13_1 : Int).toNat ((IntKind.u64.wrap (x15_29 - 1)) % 4294967296)) (IntKind.u64.wrap (rd t190 (ji3))) (IntKind.u64.wrap (rd t190 (ji13))) (wrap64 (x13_1 - 1))) else (none)) = some (r1, r2) := H
                     have A49 := zA A490
                     clear A490
                     by_cases c50 : x13_1 < (x10_1.length : Int)
                     ·
                      rw [if_pos c50] at H
                      have c50b0 := decide_eq_true c50
                      clear c50
                      obtain ⟨y212, hy212⟩ : ∃ y_ : List Int, y_ = (x10_1.set (x13_1 : Int).toNat ((IntKind.u64.wrap (x15_29 - 1)) % 4294967296)) := ⟨_, rfl⟩
                      replace H : (bignat_divLong.l0 kj29 (l1.length : Int) (IntKind.u64.wrap (t186)) t211 t190 y212 (IntKind.u64.wrap (rd t190 (ji3))) (IntKind.u64.wrap (rd t190 (ji13))) (wrap64 (x13_1 - 1))) = some (r1, r2) := by first | (rw [hy212]; with_reducible exact H) | (have H2_ := (Option.bind_some _ _).symm.trans H; rw [hy212]; with_reducible exact H2_) | (have H2_ := (Option.bind_some _ _).symm.trans H; with_reducible exact H2_) | with_reducible exact H | (rw [hy212]; exact H) | exact H
                      have Ny212 := zA hy212
                      clear hy212
                      have H' := zA H
                      clear H
                      have q52 : ((wrap64 ((wrap64 (x13_1 + (l1.length : Int))) + 1)) : Int) ≤ ((x8_1.length : Int) : Int) := zD
                      obtain ⟨i052, hi052, _, hsz52, _⟩ := info_parts info37
                      have hroom52 : x8_1.length ≤ co32 := (Kd.R_reads' HO_8.out).2.1
                      have hC52 : Kd.C (Kd.int .u32) _ (some ad198) x8_1.length x8_1 := (Kd.R_reads' HO_8.out).2.2
                      have ql52 : (x13_1 : Int) ≤ ((wrap64 ((wrap64 (x13_1 + (l1.length : Int))) + 1)) : Int) := zD
                      have q052 : (0 : Int) ≤ (x13_1 : Int) := zD
                      have hcut52 := cut_mid (P := Tryd.prog) 23 37 .i64 .i64 Tryd.underlying23 hi052 1 hsz52 (some ad198) x8_1.length co32 x13_1 (wrap64 ((wrap64 (x13_1 + (l1.length : Int))) + 1)) q052 ql52 q52 hroom52
                      have hr52 := Kd.C_mid (lo := (x13_1 : Int).toNat) (hi := ((wrap64 ((wrap64 (x13_1 + (l1.length : Int))) + 1)) : Int).toNat) (c := co32) hC52 (by omega) (by omega) hroom52
                      obtain ⟨A52, hA52⟩ : ∃ A1, A1 = (if co32 = (x13_1 : Int).toNat then (some ad198) else ((some ad198) : Option Addr).map (·.add ((x13_1 : Int).toNat * 1))) := ⟨_, rfl⟩
                      obtain ⟨c52, hc52⟩ : ∃ c1, c1 = co32 - (x13_1 : Int).toNat := ⟨_, rfl⟩
                      have hy52 : y201.length = ((wrap64 ((wrap64 (x13_1 + (l1.length : Int))) + 1)) : Int).toNat - (x13_1 : Int).toNat := (by rw [Ny201.out, List.length_drop, List.length_take] <;> omega)
                      rw [show ((x8_1).take ((wrap64 ((wrap64 (x13_1 + (l1.length : Int))) + 1)) : Int).toNat).drop (x13_1 : Int).toNat = y201 from Ny201.out.symm] at hr52
                      replace hr52 : Kd.C (Kd.int .u32) _ A52 y201.length y201 := (by rw [hA52]; exact hr52)
                      rw [← hy52, ← hA52, ← hc52] at hcut52
                      have HR204 := zA hr52
                      have HC204 := zA (show y201.length ≤ c52 from by rw [hy52, hc52]; exact Nat.sub_le_sub_right (Nat.le_trans (by omega) hroom52) _)
                      clear hr52 hC52 hroom52 hi052 hsz52 hc52
                      have KY52 := zA hy52
                      have KA52 := zA hA52
                      clear hy52 hA52
                      have KL52 := zA (show ((wrap64 ((wrap64 (x13_1 + (l1.length : Int))) + 1)) : Int).toNat ≤ x8_1.length from by omega)
                      have KM52 := zA (show (x13_1 : Int).toNat ≤ ((wrap64 ((wrap64 (x13_1 + (l1.length : Int))) + 1)) : Int).toNat from by omega)
                      replace q52 := eq_true q52
                      go_wp2_with (first | ((with_reducible refine gate_callee (f := 104) rfl ?_); refine goesL_ (some 124) rfl rfl Tryd.func104 zk rfl #[.slice A52 y201.length c52, .slice (some ad196) t190.length co21, .int .u64 x15_29] rfl (by (try simp only [List.map_toArray, List.map_cons, List.map_nil]); first | done | rfl | (simp only [List.length_drop, List.length_take]; rfl) | (go_simp; done) | (go_simp; rfl) | (go_simp; (try simp only [IntKind.wrap_u8, IntKind.wrap_u32, IntKind.wrap_u64]); omega)) ?_; (with_reducible refine (bignat_subtractScaled.part kj29 (fun k_ => some k_ = (.slice (some ad198) x8_1.length co32 : Value).ownBlock) ad198 (x8_1.length) co32 x8_1 x13_1 (wrap64 ((wrap64 (x13_1 + (l1.length : Int))) + 1)) A52 y201.length c52 y201 KA52.out KY52.out Ny201.out KL52.out KM52.out _ _ t190 x15_29 true t206 w _ ?side1 ?side2 ?side3 ?side4 A44.out).mono ?_); (case side1 => repeat (first | (with_reducible first | exact HB.out | apply below_alloc | apply pw_below_drewN | apply below_drew1) | exact HB.out)); (case side2 => exact Kd.R_tight rfl HO_8.out); (case side3 => exact Kd.C_kept_own (HO_9.out) (fun k_ hk_ hs_ => (hk_.1) hs_)); (case side4 => exact (Kd.R_reads' HO_9.out).2.1); rintro e w53 ⟨rfl, hy0, hb, hkp⟩; refine ⟨_, rfl, ?_⟩; replace HO_8 := zA (Kd.R_reok rfl hy0 (fun k_ e_ => HO_8.out.1 k_ e_)); replace HO_9 := zA (Kd.R_mono (ok' := fun k_ => some k_ ≠ (.slice (some ad198) x8_1.length co32 : Value).ownBlock ∧ some k_ ≠ (v194 : Value).ownBlock) (Kd.R_keptB (HO_9.out) hkp (fun k_ hk_ hs_ => (hk_.1) hs_)) (fun k_ hk_ => ⟨hk_.1.1, hk_.1.2⟩)); replace HO_10 := zA (Kd.R_mono (ok' := fun k_ => some k_ ≠ (.slice (some ad198) x8_1.length co32 : Value).ownBlock ∧ some k_ ≠ (.slice (some ad196) t190.length co21 : Value).ownBlock) (Kd.R_keptB (HO_10.out) hkp (fun k_ hk_ hs_ => (hk_.1) hs_)) (fun k_ hk_ => ⟨hk_.1.1, hk_.1.2⟩)); replace HB := zA (hb); (try clear hb); (try clear hkp); (try clear hy0); have hlx54 := (Kd.R_reads' HO_8.out).1; have q54 : ((wrap64 ((wrap64 (x13_1 + (l1.length : Int))) + 1)) : Int) ≤ ((x8_1.length : Int) : Int) := zD; obtain ⟨i054, hi054, _, hsz54, _⟩ := info_parts info37; have hroom54 : x8_1.length ≤ co32 := (Kd.R_reads' HO_8.out).2.1; have hroomc54 : t206.length ≤ co32 := (by rw [← hlx54]; exact hroom54); have hC54 : Kd.C (Kd.int .u32) _ (some ad198) t206.length t206 := (Kd.R_reads' HO_8.out).2.2; have ql54 : (x13_1 : Int) ≤ ((wrap64 ((wrap64 (x13_1 + (l1.length : Int))) + 1)) : Int) := zD; have q054 : (0 : Int) ≤ (x13_1 : Int) := zD; have hcut54 := cut_mid (P := Tryd.prog) 23 37 .i64 .i64 Tryd.underlying23 hi054 1 hsz54 (some ad198) x8_1.length co32 x13_1 (wrap64 ((wrap64 (x13_1 + (l1.length : Int))) + 1)) q054 ql54 q54 hroom54; have hr54 := Kd.C_mid (lo := (x13_1 : Int).toNat) (hi := ((wrap64 ((wrap64 (x13_1 + (l1.length : Int))) + 1)) : Int).toNat) (c := co32) hC54 (by omega) (by omega) hroomc54; obtain ⟨A54, hA54⟩ : ∃ A1, A1 = (if co32 = (x13_1 : Int).toNat then (some ad198) else ((some ad198) : Option Addr).map (·.add ((x13_1 : Int).toNat * 1))) := ⟨_, rfl⟩; obtain ⟨c54, hc54⟩ : ∃ c1, c1 = co32 - (x13_1 : Int).toNat := ⟨_, rfl⟩; have hy54 : y207.length = ((wrap64 ((wrap64 (x13_1 + (l1.length : Int))) + 1)) : Int).toNat - (x13_1 : Int).toNat := (by rw [Ny207.out, List.length_drop, List.length_take] <;> omega); rw [show ((t206).take ((wrap64 ((wrap64 (x13_1 + (l1.length : Int))) + 1)) : Int).toNat).drop (x13_1 : Int).toNat = y207 from Ny207.out.symm] at hr54; replace hr54 : Kd.C (Kd.int .u32) _ A54 y207.length y207 := (by rw [hA54]; exact hr54); rw [← hy54, ← hA54, ← hc54] at hcut54; have HR210 := zA hr54; have HC210 := zA (show y207.length ≤ c54 from by rw [hy54, hc54]; exact Nat.sub_le_sub_right (Nat.le_trans (by omega) hroom54) _); clear hr54 hC54 hroom54 hi054 hsz54 hc54 hroomc54; have KY54 := zA hy54; have KA54 := zA hA54; clear hy54 hA54; have KE54 := zA hlx54; have KL54 := zA (show ((wrap64 ((wrap64 (x13_1 + (l1.length : Int))) + 1)) : Int).toNat ≤ t206.length from by omega); have KM54 := zA (show (x13_1 : Int).toNat ≤ ((wrap64 ((wrap64 (x13_1 + (l1.length : Int))) + 1)) : Int).toNat from by omega); clear hlx54; replace q54 := eq_true q54) | ((with_reducible refine gate_callee (f := 105) rfl ?_); refine goesL_ (some 135) rfl rfl Tryd.func105 zk rfl #[.slice A52 y201.length c52, .slice (some ad196) t190.length co21] rfl (by (try simp only [List.map_toArray, List.map_cons, List.map_nil]); first | done | rfl | (simp only [List.length_drop, List.length_take]; rfl) | (go_simp; done) | (go_simp; rfl) | (go_simp; (try simp only [IntKind.wrap_u8, IntKind.wrap_u32, IntKind.wrap_u64]); omega)) ?_; (with_reducible refine (bignat_addBack.part kj29 (fun k_ => some k_ = (.slice (some ad198) x8_1.length co32 : Value).ownBlock) ad198 (x8_1.length) co32 t206 x13_1 (wrap64 ((wrap64 (x13_1 + (l1.length : Int))) + 1)) A52 y201.length c52 y207 KA52.out KY52.out Ny207.out KL54.out KM54.out _ _ t190 t211 w _ ?side1 ?side2 ?side3 ?side4 A49.out).mono ?_); (case side1 => repeat (first | (with_reducible first | exact HB.out | apply below_alloc | apply pw_below_drewN | apply below_drew1) | exact HB.out)); (case side2 => exact Kd.R_tight rfl HO_8.out); (case side3 => exact Kd.C_kept_own (HO_9.out) (fun k_ hk_ hs_ => (hk_.1) hs_)); (case side4 => exact (Kd.R_reads' HO_9.out).2.1); rintro e w55 ⟨rfl, hy0, hb, hkp⟩; refine ⟨_, rfl, ?_⟩; replace HO_8 := zA (Kd.R_reok rfl hy0 (fun k_ e_ => HO_8.out.1 k_ e_)); replace HO_9 := zA (Kd.R_mono (ok' := fun k_ => some k_ ≠ (.slice (some ad198) x8_1.length co32 : Value).ownBlock ∧ some k_ ≠ (v194 : Value).ownBlock) (Kd.R_keptB (HO_9.out) hkp (fun k_ hk_ hs_ => (hk_.1) hs_)) (fun k_ hk_ => ⟨hk_.1.1, hk_.1.2⟩)); replace HO_10 := zA (Kd.R_mono (ok' := fun k_ => some k_ ≠ (.slice (some ad198) x8_1.length co32 : Value).ownBlock ∧ some k_ ≠ (.slice (some ad196) t190.length co21 : Value).ownBlock) (Kd.R_keptB (HO_10.out) hkp (fun k_ hk_ hs_ => (hk_.1) hs_)) (fun k_ hk_ => ⟨hk_.1.1, hk_.1.2⟩)); replace HB := zA (hb); (try clear hb); (try clear hkp); (try clear hy0); have p51 : 0 ≤ (x13_1 : Int) := zD; have q51 : (x13_1 : Int) < ((x10_1.length : Int) : Int) := zD; obtain ⟨go51, co51, eo51, gb51, gl51, cl51, HG51⟩ := Kd.R_form HO_10.out (by omega); (first | cases eo51 | (injection eo51 with ea_ en_ ec_; (first | subst ea_ | (injection ea_ with ea_; subst ea_)); subst ec_; clear en_)); have GB51 := zA gb51; have GG51 := zA HG51; clear gb51 gl51 HG51; obtain ⟨hx51_0, hf51_0⟩ := Kd.R_celln 0 HO_10.out (x13_1 : Int) p51 q51; replace p51 := eq_true p51; replace q51 := eq_true q51; obtain ⟨hy56_, hz56_⟩ := Kd.R_celln 0 HO_10.out (x13_1 : Int) zD zD; have HP56 := Kd.R_putg HO_10.out (x13_1 : Int) ((IntKind.u64.wrap (x15_29 - 1)) % 4294967296)) | ((with_reducible refine gate_store (t := 37) (p := 140) rfl ?_); refine store_event (t := 37) (p := 140) (v := ?vo_w57) (w1 := (w55.setCell ⟨go51, (x13_1 : Int).toNat, none⟩ (.int .u32 ((IntKind.u64.wrap (x15_29 - 1)) % 4294967296)))) ?hg ?ho ?hn ?hr ?_; (case ho => rfl); (case hg => rfl); (case hn => rfl); (case hr => first | (go_simp; done) | (go_simp; rfl)); intro w57 hw; have hg : w55.grownBy w57 (some go51) := (by rw [hw]; exact HP56.2); have hp_ : Kd.R (Kd.int .u32) 37 w57 w.heap.size (fun k_ => some k_ ≠ (.slice (some ad198) x8_1.length co32 : Value).ownBlock ∧ some k_ ≠ (.slice (some ad196) t190.length co21 : Value).ownBlock) (.slice (some ⟨go51, 0, none⟩) x10_1.length co51) y212 := (by rw [hw, Ny212.out]; exact HP56.1); clear HP56; replace HO_8 := zA (Kd.R_after (v := (.slice (some ⟨go51, 0, none⟩) x10_1.length co51)) (v1 := (.slice (some ⟨go51, 0, none⟩) x10_1.length co51)) (ok := (fun k_ => some k_ ≠ (.slice (some ad196) t190.length co21 : Value).ownBlock)) (zR HO_8.out) hg (.inl rfl)); replace HO_9 := zA (Kd.R_after (v := (.slice (some ⟨go51, 0, none⟩) x10_1.length co51)) (v1 := (.slice (some ⟨go51, 0, none⟩) x10_1.length co51)) (ok := (fun k_ => some k_ ≠ (.slice (some ad198) x8_1.length co32 : Value).ownBlock)) (zR HO_9.out) hg (.inl rfl)); replace HO_10 := zA (hp_); replace HB := zA ((by rw [hw]; exact below_set (HB.out) GB51.out : Below w.heap.size w w57)); clear hg hw hp_))
                      go_roundg kj29
                      case measure => have := HK1.out; have := HJ29.out; omega
                      case rel => exact ⟨(t211), (y212), (wrap64 (x13_1 - 1)), zT, H', ⟨by have := HK1.out; have := HJ29.out; omega⟩, ⟨zR HO_8.out⟩, ⟨zR HO_9.out⟩, ⟨zR HO_10.out⟩, ⟨zH⟩⟩
                     rw [if_neg c50] at H
                     cases H
                    replace c45 := Bool.eq_false_iff.mpr c45
                    subst c45
                    have H1 : (if x13_1 < (x10_1.length : Int) then (bignat_divLong.l0 kj29 (l1.length : Int) (IntKind.u64.wrap (t186)) t206 t190 (x10_1.set (x13_1 : Int).toNat ((x15_29) % 4294967296)) (IntKind.u64.wrap (rd t190 (ji3))) (IntKind.u64.wrap (rd t190 (ji13))) (wrap64 (x13_1 - 1))) else (none)) = some (r1, r2) := by rw [if_neg (show ¬ (false = true) by decide)] at H; exact H
                    clear H
                    have H := H1
                    clear H1
                    by_cases c58 : x13_1 < (x10_1.length : Int)
                    ·
                     rw [if_pos c58] at H
                     have c58b0 := decide_eq_true c58
                     clear c58
                     obtain ⟨y213, hy213⟩ : ∃ y_ : List Int, y_ = (x10_1.set (x13_1 : Int).toNat ((x15_29) % 4294967296)) := ⟨_, rfl⟩
                     replace H : (bignat_divLong.l0 kj29 (l1.length : Int) (IntKind.u64.wrap (t186)) t206 t190 y213 (IntKind.u64.wrap (rd t190 (ji3))) (IntKind.u64.wrap (rd t190 (ji13))) (wrap64 (x13_1 - 1))) = some (r1, r2) := by first | (rw [hy213]; with_reducible exact H) | (have H2_ := (Option.bind_some _ _).symm.trans H; rw [hy213]; with_reducible exact H2_) | (have H2_ := (Option.bind_some _ _).symm.trans H; with_reducible exact H2_) | with_reducible exact H | (rw [hy213]; exact H) | exact H
                     have Ny213 := zA hy213
                     clear hy213
                     have H' := zA H
                     clear H
                     have q60 : ((wrap64 ((wrap64 (x13_1 + (l1.length : Int))) + 1)) : Int) ≤ ((x8_1.length : Int) : Int) := zD
                     obtain ⟨i060, hi060, _, hsz60, _⟩ := info_parts info37
                     have hroom60 : x8_1.length ≤ co32 := (Kd.R_reads' HO_8.out).2.1
                     have hC60 : Kd.C (Kd.int .u32) _ (some ad198) x8_1.length x8_1 := (Kd.R_reads' HO_8.out).2.2
                     have ql60 : (x13_1 : Int) ≤ ((wrap64 ((wrap64 (x13_1 + (l1.length : Int))) + 1)) : Int) := zD
                     have q060 : (0 : Int) ≤ (x13_1 : Int) := zD
                     have hcut60 := cut_mid (P := Tryd.prog) 23 37 .i64 .i64 Tryd.underlying23 hi060 1 hsz60 (some ad198) x8_1.length co32 x13_1 (wrap64 ((wrap64 (x13_1 + (l1.length : Int))) + 1)) q060 ql60 q60 hroom60
                     have hr60 := Kd.C_mid (lo := (x13_1 : Int).toNat) (hi := ((wrap64 ((wrap64 (x13_1 + (l1.length : Int))) + 1)) : Int).toNat) (c := co32) hC60 (by omega) (by omega) hroom60
                     obtain ⟨A60, hA60⟩ : ∃ A1, A1 = (if co32 = (x13_1 : Int).toNat then (some ad198) else ((some ad198) : Option Addr).map (·.add ((x13_1 : Int).toNat * 1))) := ⟨_, rfl⟩
                     obtain ⟨c60, hc60⟩ : ∃ c1, c1 = co32 - (x13_1 : Int).toNat := ⟨_, rfl⟩
                     have hy60 : y201.length = ((wrap64 ((wrap64 (x13_1 + (l1.length : Int))) + 1)) : Int).toNat - (x13_1 : Int).toNat := (by rw [Ny201.out, List.length_drop, List.length_take] <;> omega)
                     rw [show ((x8_1).take ((wrap64 ((wrap64 (x13_1 + (l1.length : Int))) + 1)) : Int).toNat).drop (x13_1 : Int).toNat = y201 from Ny201.out.symm] at hr60
                     replace hr60 : Kd.C (Kd.int .u32) _ A60 y201.length y201 := (by rw [hA60]; exact hr60)
                     rw [← hy60, ← hA60, ← hc60] at hcut60
                     have HR204 := zA hr60
                     have HC204 := zA (show y201.length ≤ c60 from by rw [hy60, hc60]; exact Nat.sub_le_sub_right (Nat.le_trans (by omega) hroom60) _)
                     clear hr60 hC60 hroom60 hi060 hsz60 hc60
                     have KY60 := zA hy60
                     have KA60 := zA hA60
                     clear hy60 hA60
                     have KL60 := zA (show ((wrap64 ((wrap64 (x13_1 + (l1.length : Int))) + 1)) : Int).toNat ≤ x8_1.length from by omega)
                     have KM60 := zA (show (x13_1 : Int).toNat ≤ ((wrap64 ((wrap64 (x13_1 + (l1.length : Int))) + 1)) : Int).toNat from by omega)
                     replace q60 := eq_true q60
                     go_wp2_with (first | ((with_reducible refine gate_callee (f := 104) rfl ?_); refine goesL_ (some 124) rfl rfl Tryd.func104 zk rfl #[.slice A60 y201.length c60, .slice (some ad196) t190.length co21, .int .u64 x15_29] rfl (by (try simp only [List.map_toArray, List.map_cons, List.map_nil]); first | done | rfl | (simp only [List.length_drop, List.length_take]; rfl) | (go_simp; done) | (go_simp; rfl) | (go_simp; (try simp only [IntKind.wrap_u8, IntKind.wrap_u32, IntKind.wrap_u64]); omega)) ?_; (with_reducible refine (bignat_subtractScaled.part kj29 (fun k_ => some k_ = (.slice (some ad198) x8_1.length co32 : Value).ownBlock) ad198 (x8_1.length) co32 x8_1 x13_1 (wrap64 ((wrap64 (x13_1 + (l1.length : Int))) + 1)) A60 y201.length c60 y201 KA60.out KY60.out Ny201.out KL60.out KM60.out _ _ t190 x15_29 false t206 w _ ?side1 ?side2 ?side3 ?side4 A44.out).mono ?_); (case side1 => repeat (first | (with_reducible first | exact HB.out | apply below_alloc | apply pw_below_drewN | apply below_drew1) | exact HB.out)); (case side2 => exact Kd.R_tight rfl HO_8.out); (case side3 => exact Kd.C_kept_own (HO_9.out) (fun k_ hk_ hs_ => (hk_.1) hs_)); (case side4 => exact (Kd.R_reads' HO_9.out).2.1); rintro e w61 ⟨rfl, hy0, hb, hkp⟩; refine ⟨_, rfl, ?_⟩; replace HO_8 := zA (Kd.R_reok rfl hy0 (fun k_ e_ => HO_8.out.1 k_ e_)); replace HO_9 := zA (Kd.R_mono (ok' := fun k_ => some k_ ≠ (.slice (some ad198) x8_1.length co32 : Value).ownBlock ∧ some k_ ≠ (v194 : Value).ownBlock) (Kd.R_keptB (HO_9.out) hkp (fun k_ hk_ hs_ => (hk_.1) hs_)) (fun k_ hk_ => ⟨hk_.1.1, hk_.1.2⟩)); replace HO_10 := zA (Kd.R_mono (ok' := fun k_ => some k_ ≠ (.slice (some ad198) x8_1.length co32 : Value).ownBlock ∧ some k_ ≠ (.slice (some ad196) t190.length co21 : Value).ownBlock) (Kd.R_keptB (HO_10.out) hkp (fun k_ hk_ hs_ => (hk_.1) hs_)) (fun k_ hk_ => ⟨hk_.1.1, hk_.1.2⟩)); replace HB := zA (hb); (try clear hb); (try clear hkp); (try clear hy0); have p59 : 0 ≤ (x13_1 : Int) := zD; have q59 : (x13_1 : Int) < ((x10_1.length : Int) : Int) := zD; obtain ⟨go59, co59, eo59, gb59, gl59, cl59, HG59⟩ := Kd.R_form HO_10.out (by omega); (first | cases eo59 | (injection eo59 with ea_ en_ ec_; (first | subst ea_ | (injection ea_ with ea_; subst ea_)); subst ec_; clear en_)); have GB59 := zA gb59; have GG59 := zA HG59; clear gb59 gl59 HG59; obtain ⟨hx59_0, hf59_0⟩ := Kd.R_celln 0 HO_10.out (x13_1 : Int) p59 q59; replace p59 := eq_true p59; replace q59 := eq_true q59; obtain ⟨hy62_, hz62_⟩ := Kd.R_celln 0 HO_10.out (x13_1 : Int) zD zD; have HP62 := Kd.R_putg HO_10.out (x13_1 : Int) ((x15_29) % 4294967296)) | ((with_reducible refine gate_store (t := 37) (p := 140) rfl ?_); refine store_event (t := 37) (p := 140) (v := ?vo_w63) (w1 := (w61.setCell ⟨go59, (x13_1 : Int).toNat, none⟩ (.int .u32 ((x15_29) % 4294967296)))) ?hg ?ho ?hn ?hr ?_; (case ho => rfl); (case hg => rfl); (case hn => rfl); (case hr => first | (go_simp; done) | (go_simp; rfl)); intro w63 hw; have hg : w61.grownBy w63 (some go59) := (by rw [hw]; exact HP62.2); have hp_ : Kd.R (Kd.int .u32) 37 w63 w.heap.size (fun k_ => some k_ ≠ (.slice (some ad198) x8_1.length co32 : Value).ownBlock ∧ some k_ ≠ (.slice (some ad196) t190.length co21 : Value).ownBlock) (.slice (some ⟨go59, 0, none⟩) x10_1.length co59) y213 := (by rw [hw, Ny213.out]; exact HP62.1); clear HP62; replace HO_8 := zA (Kd.R_after (v := (.slice (some ⟨go59, 0, none⟩) x10_1.length co59)) (v1 := (.slice (some ⟨go59, 0, none⟩) x10_1.length co59)) (ok := (fun k_ => some k_ ≠ (.slice (some ad196) t190.length co21 : Value).ownBlock)) (zR HO_8.out) hg (.inl rfl)); replace HO_9 := zA (Kd.R_after (v := (.slice (some ⟨go59, 0, none⟩) x10_1.length co59)) (v1 := (.slice (some ⟨go59, 0, none⟩) x10_1.length co59)) (ok := (fun k_ => some k_ ≠ (.slice (some ad198) x8_1.length co32 : Value).ownBlock)) (zR HO_9.out) hg (.inl rfl)); replace HO_10 := zA (hp_); replace HB := zA ((by rw [hw]; exact below_set (HB.out) GB59.out : Below w.heap.size w w63)); clear hg hw hp_))
                     go_roundg kj29
                     case measure => have := HK1.out; have := HJ29.out; omega
                     case rel => exact ⟨(t206), (y213), (wrap64 (x13_1 - 1)), zT, H', ⟨by have := HK1.out; have := HJ29.out; omega⟩, ⟨zR HO_8.out⟩, ⟨zR HO_9.out⟩, ⟨zR HO_10.out⟩, ⟨zH⟩⟩
                    rw [if_neg c58] at H
                    cases H
                   rw [if_neg c43] at H
                   cases H
                  rw [if_neg c42] at H
                  cases H
                 rw [if_neg c41] at H
                 cases H
              rw [if_neg c28] at H
              cases H
             rw [if_neg c27] at H
             cases H
            rw [if_neg c25] at H
            cases H
           rw [if_neg c24] at H
           cases H
          rw [if_neg c22] at H
          have c22b0 : decide (0 ≤ x13_1) = false := decide_eq_false c22
          clear c22
          by_cases c64 : 0 ≤ (l1.length : Int)
          ·
           rw [if_pos c64] at H
           have c64b0 := eq_true c64
           have c64b1 := decide_eq_true c64
           clear c64
           by_cases c65 : ((l1.length : Int) : Int).toNat ≤ 70368744177664
           ·
            rw [if_pos c65] at H
            have c65b0 := eq_true c65
            have c65b1 := decide_eq_true c65
            clear c65
            obtain ⟨y214, hy214⟩ : ∃ y_ : List Int, y_ = (List.replicate ((l1.length : Int) : Int).toNat 0) := ⟨_, rfl⟩
            replace H : (bignat_divLong.l2 k1 (IntKind.u64.wrap (t186)) x8_1 x10_1 y214 (y214.length : Int) 0) = some (r1, r2) := by first | (rw [hy214]; with_reducible exact H) | (have H2_ := (Option.bind_some _ _).symm.trans H; rw [hy214]; with_reducible exact H2_) | (have H2_ := (Option.bind_some _ _).symm.trans H; with_reducible exact H2_) | with_reducible exact H | (rw [hy214]; exact H) | exact H
            have Ny214 := zA hy214
            clear hy214
            have H' := zA H
            clear H
            go_wp2_with (first | ((with_reducible refine gate_dst (N := 142) rfl ?_); refine Kd.R_make (Kd.int .u32) _ 37 rfl (N := 142) rfl 23 _ _ rfl (l1.length : Int) rfl rfl Tryd.underlying23 (.int .u32 0) 4 info37 rfl (by decide) (by omega) 0 (ok := fun _ => True) (okp := fun _ => True) rfl (fun _ hk => hk) trivial zD (Nat.le_trans (Nat.mul_le_mul_right _ (zD : (l1.length : Int).toNat ≤ 70368744177664)) (by omega)) (Below.refl _ _) (Nat.le_refl _) ?_; intro v215 w66 ho67 hb hg_ hnew_; clear hg_ hnew_; (first | rw [← Ny214.out] at ho67 | (simp only [Int.reduceToNat] at ho67; rw [← Ny214.out] at ho67)); have HO216 := zA (Kd.R_lower (Kd.R_new' (Kd.R_new' (Kd.R_new' ho67 (Kd.R_lt (zR HO_8.out))) (Kd.R_lt (zR HO_9.out))) (Kd.R_lt (zR HO_10.out))) (below_size zH)); replace HO_8 := zA (Kd.R_elder' (zR HO_8.out) (Kd.R_base ho67) hb); replace HO_9 := zA (Kd.R_elder' (zR HO_9.out) (Kd.R_base ho67) hb); replace HO_10 := zA (Kd.R_elder' (zR HO_10.out) (Kd.R_base ho67) hb); replace HB := zA (below_step zH hb); clear hb ho67; obtain ⟨Ao68, co68, eo68⟩ := Kd.R_slice HO216.out; subst eo68))
            go_loopg [145] k1 (fun kq v145 w' => ∃ (x17_2 : List Int) (x145_2 : Int), v145 = .int .i64 x145_2 ∧ Aside0 (bignat_divLong.l2 kq (IntKind.u64.wrap (t186)) x8_1 x10_1 x17_2 (y214.length : Int) x145_2 = some (r1, r2)) ∧ Aside0 (kq ≤ k1) ∧ Aside0 (Kd.R (Kd.int .u32) 37 w' w.heap.size (fun k_ => some k_ ≠ (v194 : Value).ownBlock ∧ some k_ ≠ ((.slice Ao68 y214.length co68) : Value).ownBlock) v188 x8_1) ∧ Aside0 (Kd.R (Kd.int .u32) 37 w' w.heap.size (fun k_ => some k_ ≠ (v188 : Value).ownBlock ∧ some k_ ≠ ((.slice Ao68 y214.length co68) : Value).ownBlock) v194 x10_1) ∧ Aside0 (Kd.R (Kd.int .u32) 37 w' w.heap.size (fun k_ => some k_ ≠ (v188 : Value).ownBlock ∧ some k_ ≠ (v194 : Value).ownBlock) (.slice Ao68 y214.length co68) x17_2) ∧ Aside0 (Below w.heap.size w w'))
            case atStart => exact ⟨(y214), (0), zT, H', ⟨Nat.le_refl _⟩, ⟨zRM HO_8.out (fun _ hk => ⟨hk.1.2, hk.2⟩)⟩, ⟨zRM HO_10.out (fun _ hk => ⟨hk.1.1, hk.2⟩)⟩, ⟨zRM HO216.out (fun _ hk => ⟨hk.1.1.2, hk.2⟩)⟩, ⟨zH⟩⟩
            case round =>
             clear H'
             try clear c1
             try clear p1
             try clear q1
             try clear hx1
             try clear c2
             try clear p2
             try clear q2
             try clear hx2
             try clear c3
             try clear c4
             try clear c4b0
             try clear c5
             try clear c5b0
             try clear p5
             try clear q5
             try clear hx5
             try clear hf5
             try clear c6
             try clear p6
             try clear q6
             try clear c9
             try clear c10
             try clear c10b0
             try clear c10b1
             try clear c11
             try clear c11b0
             try clear c11b1
             try clear c12
             try clear c12b0
             try clear c14
             try clear c14b0
             try clear c15
             try clear c15b0
             try clear p18
             try clear q18
             try clear hx18
             try clear p19
             try clear q19
             try clear hx19
             try clear p20
             try clear q20
             try clear hx20
             try clear c22
             try clear c22b0
             try clear c24
             try clear c24b0
             try clear c25
             try clear c25b0
             try clear c27
             try clear c27b0
             try clear c28
             try clear c28b0
             try clear c29
             try clear c29b0
             try clear c29b1
             try clear c35
             try clear c35b0
             try clear c35b1
             try clear c37
             try clear c37b0
             try clear c38
             try clear c38b0
             try clear c39
             try clear c40
             try clear c40b0
             try clear c40b1
             try clear c41
             try clear c41b0
             try clear c41b1
             try clear c42
             try clear c42b0
             try clear c42b1
             try clear c43
             try clear c43b0
             try clear c43b1
             try clear c45
             try clear c46
             try clear c46b0
             try clear c47
             try clear c47b0
             try clear c48
             try clear c48b0
             try clear c50
             try clear c50b0
             try clear p51
             try clear q51
             try clear hx51
             try clear hf51
             try clear c52
             try clear q52
             try clear c54
             try clear q54
             try clear c58
             try clear c58b0
             try clear p59
             try clear q59
             try clear hx59
             try clear hf59
             try clear c60
             try clear q60
             try clear c64
             try clear c64b0
             try clear c64b1
             try clear p64
             try clear c65
             try clear c65b0
             try clear c65b1
             try clear hx185_0
             try clear hx196_0
             try clear hx197_0
             try clear hx198_0
             try clear hx199_0
             try clear hx200_0
             try clear hx51_0
             try clear hx59_0
             try clear p1
             try clear p18
             try clear p185
             try clear p19
             try clear p196
             try clear p197
             try clear p198
             try clear p199
             try clear p2
             try clear p20
             try clear p200
             try clear p51
             try clear p59
             try clear p6
             try clear q052
             try clear q054
             try clear q060
             try clear q1
             try clear q18
             try clear q185
             try clear q19
             try clear q196
             try clear q197
             try clear q198
             try clear q199
             try clear q2
             try clear q20
             try clear q200
             try clear q51
             try clear q52
             try clear q54
             try clear q59
             try clear q60
             obtain ⟨x17_2, x145_2, rfl, HA, HK2, HO_8, HO_10, HO_17, HB⟩ := hrel
             have hl17_2 := (Kd.R_reads' HO_17.out).1
             rw [hl17_2] at HO_17
             (try simp only [hl17_2])
             (try simp only [hl17_2] at HO_8)
             (try simp only [hl17_2] at HO_10)
             cases gk with
             | zero => exact absurd HA.out (by simp [bignat_divLong.l2])
             | succ k2 =>
              have H := HA.out
              clear HA
              simp only [bignat_divLong.l2] at H
              by_cases c69 : x145_2 < (y214.length : Int)
              ·
               rw [if_pos c69] at H
               have c69b0 := decide_eq_true c69
               (try (have c69b0h := c69b0; simp only [hl17_2] at c69b0h))
               clear c69
               obtain ⟨ji70, hji70⟩ : ∃ j_ : Int, (wrap64 (x145_2 + 1)) = j_ := ⟨_, rfl⟩
               replace H : (if 0 ≤ (ji70) then (if (ji70) < (x8_1.length : Int) then (if 0 ≤ x145_2 then (if x145_2 < (x8_1.length : Int) then (if 0 ≤ (IntKind.u64.wrap (t186)) then (if x145_2 < (x17_2.length : Int) then (bignat_divLong.l2 k2 (IntKind.u64.wrap (t186)) x8_1 x10_1 (x17_2.set (x145_2 : Int).toNat ((shr .u64 (Go.bits .or .u64 (IntKind.u64.wrap ((IntKind.u64.wrap (rd x8_1 (ji70))) * 4294967296)) (IntKind.u64.wrap (rd x8_1 x145_2))) (IntKind.u64.wrap (t186))) % 4294967296)) (y214.length : Int) ji70) else (none)) else (none)) else (none)) else (none)) else (none)) else (none)) = some (r1, r2) := by first | (rw [hji70] at H; exact H) | (simp only [hji70] at H ⊢; exact H)
               have hji70w : (IntKind.i64.wrap (x145_2 + 1)) = ji70 := (i64_w _).trans hji70
               (try (have hji70r := hji70; simp only [hji3, hji9, hji13, hji23, hji26] at hji70r))
               (try (have hji70wr := hji70w; simp only [hji3, hji9, hji13, hji23, hji26] at hji70wr))
               by_cases c71 : 0 ≤ (ji70)
               ·
                rw [if_pos c71] at H
                have c71b0 := decide_eq_true c71
                clear c71
                by_cases c72 : (ji70) < (x8_1.length : Int)
                ·
                 rw [if_pos c72] at H
                 have c72b0 := decide_eq_true c72
                 (try (have c72b0h := c72b0; simp only [hl17_2] at c72b0h))
                 clear c72
                 by_cases c73 : 0 ≤ x145_2
                 ·
                  rw [if_pos c73] at H
                  have c73b0 := decide_eq_true c73
                  clear c73
                  by_cases c74 : x145_2 < (x8_1.length : Int)
                  ·
                   rw [if_pos c74] at H
                   have c74b0 := decide_eq_true c74
                   (try (have c74b0h := c74b0; simp only [hl17_2] at c74b0h))
                   clear c74
                   by_cases c76 : 0 ≤ (IntKind.u64.wrap (t186))
                   ·
                    rw [if_pos c76] at H
                    have c76b0 := eq_true c76
                    have c76b1 := decide_eq_true c76
                    clear c76
                    obtain ⟨ji77, hji77⟩ : ∃ j_ : Int, (shr .u64 (Go.bits .or .u64 (IntKind.u64.wrap ((IntKind.u64.wrap (rd x8_1 (ji70))) * 4294967296)) (IntKind.u64.wrap (rd x8_1 x145_2))) (IntKind.u64.wrap (t186))) = j_ := ⟨_, rfl⟩
                    replace H : (if x145_2 < (x17_2.length : Int) then (bignat_divLong.l2 k2 (IntKind.u64.wrap (t186)) x8_1 x10_1 (x17_2.set (x145_2 : Int).toNat ((ji77) % 4294967296)) (y214.length : Int) ji70) else (none)) = some (r1, r2) := by first | (rw [hji77] at H; exact H) | (simp only [hji77] at H ⊢; exact H)
                    have hji77_ : ((Go.bits .or .u64 (IntKind.u64.wrap ((IntKind.u64.wrap (rd x8_1 (ji70))) * 4294967296)) (IntKind.u64.wrap (rd x8_1 x145_2))) / 2 ^ min (IntKind.u64.wrap (t186)).toNat 64) = ji77 := hji77
                    have hji77z : (IntKind.u64.wrap (t186)) ≤ 64 → ((Go.bits .or .u64 (IntKind.u64.wrap ((IntKind.u64.wrap (rd x8_1 (ji70))) * 4294967296)) (IntKind.u64.wrap (rd x8_1 x145_2))) / 2 ^ (IntKind.u64.wrap (t186)).toNat) = ji77 := shr_small hji77
                    by_cases c78 : x145_2 < (x17_2.length : Int)
                    ·
                     rw [if_pos c78] at H
                     have c78b0 := decide_eq_true c78
                     (try (have c78b0h := c78b0; simp only [hl17_2] at c78b0h))
                     clear c78
                     obtain ⟨y219, hy219⟩ : ∃ y_ : List Int, y_ = (x17_2.set (x145_2 : Int).toNat ((ji77) % 4294967296)) := ⟨_, rfl⟩
                     replace H : (bignat_divLong.l2 k2 (IntKind.u64.wrap (t186)) x8_1 x10_1 y219 (y214.length : Int) ji70) = some (r1, r2) := by first | (rw [hy219]; with_reducible exact H) | (have H2_ := (Option.bind_some _ _).symm.trans H; rw [hy219]; with_reducible exact H2_) | (have H2_ := (Option.bind_some _ _).symm.trans H; with_reducible exact H2_) | with_reducible exact H | (rw [hy219]; exact H) | exact H
                     have Ny219 := zA hy219
                     clear hy219
                     have H' := zA H
                     clear H
                     try go_wp2
                     replace HO_8 := zA (Kd.R_drew HO_8.out)
                     replace HO_10 := zA (Kd.R_drew HO_10.out)
                     replace HO_17 := zA (Kd.R_drew HO_17.out)
                     replace HB := zA (below_drew1 HB.out)
                     obtain ⟨Ao81, co81, eo81⟩ := Kd.R_slice HO_8.out
                     (first | subst eo81 | (injection eo81 with f1_ f2_ f3_; have f4_ := f1_.symm; have f5_ := f3_.symm; clear f1_ f2_ f3_; subst f4_; subst f5_))
                     have p217 : 0 ≤ ((ji70) : Int) := zD
                     have q217 : (ji70) < (x8_1.length : Int) := zD
                     obtain ⟨ad217, e217, hx217_0⟩ := Kd.at_int (Kd.R_reads' HO_8.out).2.2 (ji70) p217 q217
                     cases e217
                     replace p217 := eq_true p217
                     replace q217 := eq_true q217
                     have p218 : 0 ≤ (x145_2 : Int) := zD
                     have q218 : x145_2 < (x8_1.length : Int) := zD
                     obtain ⟨ad218, e218, hx218_0⟩ := Kd.at_int (Kd.R_reads' HO_8.out).2.2 x145_2 p218 q218
                     obtain rfl : ad217 = ad218 := (by injection e218)
                     replace p218 := eq_true p218
                     replace q218 := eq_true q218
                     have p79 : 0 ≤ (x145_2 : Int) := zD
                     have q79 : (x145_2 : Int) < ((x17_2.length : Int) : Int) := zD
                     obtain ⟨go79, co79, eo79, gb79, gl79, cl79, HG79⟩ := Kd.R_form HO_17.out (by omega)
                     (first | cases eo79 | (injection eo79 with ea_ en_ ec_; (first | subst ea_ | (injection ea_ with ea_; subst ea_)); subst ec_; clear en_))
                     have GB79 := zA gb79
                     have GG79 := zA HG79
                     clear gb79 gl79 HG79
                     obtain ⟨hx79_0, hf79_0⟩ := Kd.R_celln 0 HO_17.out (x145_2 : Int) p79 q79
                     replace p79 := eq_true p79
                     replace q79 := eq_true q79
                     have HP82 := Kd.R_putn HO_17.out (x145_2 : Int) ((ji77) % 4294967296)
                     rw [← Ny219.out] at HP82
                     have HQ82 := zA HP82
                     clear HP82
                     refine start_ (n := 20) (S := fun w' => w'.cell? (ad217.add ((ji70)).toNat) = some (.int .u32 (rd x8_1 (ji70))) ∧ w'.cell? (ad217.add (x145_2).toNat) = some (.int .u32 (rd x8_1 x145_2))) (ds := [19]) #[false, false, false, false, false, false, false, false, false, false, false, false, false, false, false, false, false, false, false, false] zk rfl rfl ⟨hx217_0, hx218_0⟩ (fun hHeld => ?_); refine with_tabW bignat_divLong.tab24 bignat_divLong.bits24 (fun HT_ HW_ => ?_)
                     generalize wr.drew = w80 at HO_8 HO_10 HO_17 HB GG79 HQ82 hf79_0 hx217_0 hx218_0 hx79_0 hHeld ⊢
                     refine zp 0 148 HT_ ?_
                     refine zp 1 149 HT_ ?_
                     refine zp 2 150 HT_ ?_
                     refine zp 3 151 HT_ ?_
                     refine zp 4 152 HT_ ?_
                     refine zp 5 153 HT_ ?_
                     refine zp 9 157 HT_ ?_
                     refine zp 10 158 HT_ ?_
                     refine zp 11 159 HT_ ?_
                     refine zp 15 163 HT_ ?_
                     refine take_ (i := 6) (N := some 154) (v := ?_) (a' := ?_) #[true, true, true, true, true, true, true, false, false, true, true, true, false, false, false, true, false, false, false, false] rfl rfl (take_ofW HT_.out HW_.out zk) (fun _ _ _ h => h) (Or.inl ⟨by rfl, ?_⟩) hHeld ?_ ?_
                     rotate_left
                     ·
                      rintro w' ⟨s0, s1⟩
                      go_simp
                      with_reducible rfl
                     rotate_left
                     ·
                      simp only [Act.put, List.setIfInBounds_toArray, List.set_cons_zero, List.set_cons_succ, i64_w, i32_w]
                      rfl
                     refine zp 7 155 HT_ ?_
                     refine zp 8 156 HT_ ?_
                     refine take_ (i := 12) (N := some 160) (v := ?_) (a' := ?_) #[true, true, true, true, true, true, true, true, true, true, true, true, true, false, false, true, false, false, false, false] rfl rfl (take_ofW HT_.out HW_.out zk) (fun _ _ _ h => h) (Or.inl ⟨by rfl, ?_⟩) hHeld ?_ ?_
                     rotate_left
                     ·
                      rintro w' ⟨s0, s1⟩
                      go_simp
                      with_reducible rfl
                     rotate_left
                     ·
                      simp only [Act.put, List.setIfInBounds_toArray, List.set_cons_zero, List.set_cons_succ, i64_w, i32_w]
                      rfl
                     refine zp 13 161 HT_ ?_
                     refine zp 14 162 HT_ ?_
                     refine zp 16 164 HT_ ?_
                     refine zp 17 165 HT_ ?_
                     refine zp 18 166 HT_ ?_
                     refine last_ (i := 19) (N := none) #[true, true, true, true, true, true, true, true, true, true, true, true, true, true, true, true, true, true, true, true] rfl rfl (one_of HT_.out zk) (by decide) (fun K hK => ?_)
                     refine skip_ (w1 := ?_) (by rfl) rfl ?_ ?_
                     rotate_left
                     ·
                      go_simp
                      rfl
                     refine hK.out _ _ ?_
                     clear hK K
                     refine done_ (done_of HT_.out zk) ?_
                     try go_wp2
                     (try simp only [← hl17_2])
                     go_roundg k2
                     case measure => have := HK1.out; have := HK2.out; omega
                     case rel => exact ⟨(y219), (ji70), (by first | rfl | (simp; done) | (simp only [← hji70] <;> (first | rfl | simp)) | (simp [*]; done)), H', ⟨by have := HK1.out; have := HK2.out; omega⟩, ⟨by (try simp only [hl17_2]); (with_reducible repeat (first | apply Kd.R_alloc | apply Kd.R_drewN | apply Kd.R_drew)); exact Kd.R_mono (Kd.R_far (p := ⟨go79, (x145_2 : Int).toNat, none⟩) (Kd.R_mono HO_8.out (fun k_ hk => (⟨hk, fun e_ => hk.2 (by rw [e_]; rfl)⟩ : _ ∧ k_ ≠ go79))) (fun _ hk => hk.2) (.int .u32 ((ji77) % 4294967296))) (fun _ hk => ⟨hk.1.1, hk.1.2⟩)⟩, ⟨by (try simp only [hl17_2]); (with_reducible repeat (first | apply Kd.R_alloc | apply Kd.R_drewN | apply Kd.R_drew)); exact Kd.R_mono (Kd.R_far (p := ⟨go79, (x145_2 : Int).toNat, none⟩) (Kd.R_mono HO_10.out (fun k_ hk => (⟨hk, fun e_ => hk.2 (by rw [e_]; rfl)⟩ : _ ∧ k_ ≠ go79))) (fun _ hk => hk.2) (.int .u32 ((ji77) % 4294967296))) (fun _ hk => ⟨hk.1.1, hk.1.2⟩)⟩, ⟨by (try simp only [hl17_2]); (with_reducible repeat (first | apply Kd.R_alloc | apply Kd.R_drewN | apply Kd.R_drew)); exact HQ82.out⟩, ⟨by repeat (first | (with_reducible first | exact HB.out | apply below_alloc | apply pw_below_drewN | apply below_drew1 | refine below_set ?_ GB79.out) | exact HB.out)⟩⟩
                    rw [if_neg c78] at H
                    cases H
                   rw [if_neg c76] at H
                   cases H
                  rw [if_neg c74] at H
                  cases H
                 rw [if_neg c73] at H
                 cases H
                rw [if_neg c72] at H
                cases H
               rw [if_neg c71] at H
               cases H
              rw [if_neg c69] at H
              have c69b0 := decide_eq_false c69
              (try (have c69b0h := c69b0; simp only [hl17_2] at c69b0h))
              clear c69
              obtain ⟨t220, A830, H⟩ := zi H
              replace H : ((bignat_trim.f k2 x17_2).bind fun t223 => (some (t220, t223))) = some (r1, r2) := H
              have A83 := zA A830
              clear A830
              obtain ⟨t223, A840, H⟩ := zi H
              replace H : (some (t220, t223)) = some (r1, r2) := H
              have A84 := zA A840
              clear A840
              simp only [Option.some.injEq, Prod.mk.injEq] at H
              obtain ⟨rfl, rfl⟩ := H
              obtain ⟨Ao85, co85, eo85⟩ := Kd.R_slice HO_10.out
              subst eo85
              go_wp2_with (first | ((with_reducible refine gate_callee (f := 71) rfl ?_); refine goesL_ (some 169) rfl rfl Tryd.func71 zk rfl #[.slice Ao85 x10_1.length co85] rfl (by (try simp only [List.map_toArray, List.map_cons, List.map_nil]); first | done | rfl | (simp only [List.length_drop, List.length_take]; rfl) | (go_simp; done) | (go_simp; rfl) | (go_simp; (try simp only [IntKind.wrap_u8, IntKind.wrap_u32, IntKind.wrap_u64]); omega)) ?_; (with_reducible refine (bignat_trimO.calls k2 (fun k_ => some k_ = (.slice Ao85 x10_1.length co85 : Value).ownBlock) (.slice Ao85 x10_1.length co85) x10_1 t220 w _ ?side1 ?side2 A83.out).mono ?_); (case side1 => repeat (first | (with_reducible first | exact HB.out | apply below_alloc | apply pw_below_drewN | apply below_drew1) | exact HB.out)); (case side2 => exact Kd.R_tight rfl HO_10.out); rintro e w86 ⟨v221, rfl, ho0, hb, hkp⟩; refine ⟨_, rfl, ?_⟩; have HO222 := zA (Kd.R_mono (ok' := fun k_ => some k_ ≠ (v188 : Value).ownBlock ∧ some k_ ≠ (.slice Ao68 x17_2.length co68 : Value).ownBlock) ho0 (fun k_ hk_ => ⟨Or.elim hk_ (fun hs_ => fun e_ => (((HO_8.out).1 k_ e_.symm).1) hs_) (fun hn_ => (Kd.fresh' (Kd.R_lt (zR HO_8.out)) k_ hn_)), Or.elim hk_ (fun hs_ => fun e_ => (((HO_17.out).1 k_ e_.symm).2) hs_) (fun hn_ => (Kd.fresh' (Kd.R_lt (zR HO_17.out)) k_ hn_))⟩)); replace HO_8 := zA (Kd.R_mono (ok' := fun k_ => some k_ ≠ (.slice Ao68 x17_2.length co68 : Value).ownBlock ∧ some k_ ≠ (v221 : Value).ownBlock) (Kd.R_keptB (HO_8.out) hkp (fun k_ hk_ hs_ => (hk_.1) hs_)) (fun k_ hk_ => ⟨hk_.1.2, fun e_ => Or.elim (ho0.1 k_ e_.symm) (fun hs_ => hk_.2.1 hs_) (fun hn_ => Nat.not_le.2 hk_.2.2 hn_)⟩)); replace HO_17 := zA (Kd.R_mono (ok' := fun k_ => some k_ ≠ (v188 : Value).ownBlock ∧ some k_ ≠ (v221 : Value).ownBlock) (Kd.R_keptB (HO_17.out) hkp (fun k_ hk_ hs_ => (hk_.2) hs_)) (fun k_ hk_ => ⟨hk_.1.1, fun e_ => Or.elim (ho0.1 k_ e_.symm) (fun hs_ => hk_.2.1 hs_) (fun hn_ => Nat.not_le.2 hk_.2.2 hn_)⟩)); replace HB := zA (hb); clear HO_10; (try clear hb); (try clear hkp); (try clear ho0)) | ((with_reducible refine gate_callee (f := 71) rfl ?_); refine goesL_ (some 171) rfl rfl Tryd.func71 zk rfl #[.slice Ao68 x17_2.length co68] rfl (by (try simp only [List.map_toArray, List.map_cons, List.map_nil]); first | done | rfl | (simp only [List.length_drop, List.length_take]; rfl) | (go_simp; done) | (go_simp; rfl) | (go_simp; (try simp only [IntKind.wrap_u8, IntKind.wrap_u32, IntKind.wrap_u64]); omega)) ?_; (with_reducible refine (bignat_trimO.calls k2 (fun k_ => some k_ = (.slice Ao68 x17_2.length co68 : Value).ownBlock) (.slice Ao68 x17_2.length co68) x17_2 t223 w _ ?side1 ?side2 A84.out).mono ?_); (case side1 => repeat (first | (with_reducible first | exact HB.out | apply below_alloc | apply pw_below_drewN | apply below_drew1) | exact HB.out)); (case side2 => exact Kd.R_tight rfl HO_17.out); rintro e w87 ⟨v224, rfl, ho0, hb, hkp⟩; refine ⟨_, rfl, ?_⟩; have HO225 := zA (Kd.R_mono (ok' := fun k_ => some k_ ≠ (v188 : Value).ownBlock ∧ some k_ ≠ (v221 : Value).ownBlock) ho0 (fun k_ hk_ => ⟨Or.elim hk_ (fun hs_ => fun e_ => (((HO_8.out).1 k_ e_.symm).1) hs_) (fun hn_ => (Kd.fresh' (Kd.R_lt (zR HO_8.out)) k_ hn_)), Or.elim hk_ (fun hs_ => fun e_ => (((HO222.out).1 k_ e_.symm).2) hs_) (fun hn_ => (Kd.fresh' (Kd.R_lt (zR HO222.out)) k_ hn_))⟩)); replace HO_8 := zA (Kd.R_mono (ok' := fun k_ => some k_ ≠ (v221 : Value).ownBlock ∧ some k_ ≠ (v224 : Value).ownBlock) (Kd.R_keptB (HO_8.out) hkp (fun k_ hk_ hs_ => (hk_.1) hs_)) (fun k_ hk_ => ⟨hk_.1.2, fun e_ => Or.elim (ho0.1 k_ e_.symm) (fun hs_ => hk_.2.1 hs_) (fun hn_ => Nat.not_le.2 hk_.2.2 hn_)⟩)); replace HO222 := zA (Kd.R_mono (ok' := fun k_ => some k_ ≠ (v188 : Value).ownBlock ∧ some k_ ≠ (v224 : Value).ownBlock) (Kd.R_keptB (HO222.out) hkp (fun k_ hk_ hs_ => (hk_.2) hs_)) (fun k_ hk_ => ⟨hk_.1.1, fun e_ => Or.elim (ho0.1 k_ e_.symm) (fun hs_ => hk_.2.1 hs_) (fun hn_ => Nat.not_le.2 hk_.2.2 hn_)⟩)); replace HB := zA (hb); clear HO_17; (try clear hb); (try clear hkp); (try clear ho0)))
              go_ret2
              exact ⟨_, _, by first | rfl | (simp [errW_none, errW_some] <;> rfl) | (simp only [← hji3, ← hji9, ← hji13]; first | rfl | (simp [errW_none, errW_some] <;> rfl)) | (simp [*, errW_none, errW_some] <;> rfl), zRM HO222.out (fun _ hk => hk.2), zRM HO225.out (fun _ hk => hk.2), zH⟩
           rw [if_neg c65] at H
           cases H
          rw [if_neg c64] at H
          cases H
       rw [if_neg c15] at H
       cases H
      rw [if_neg c14] at H
      cases H
     rw [if_neg c12] at H
     cases H
    rw [if_neg c11] at H
    cases H
   rw [if_neg c10] at H
   cases H
  rw [if_neg c5] at H
  cases H
 rw [if_neg c4] at H
 cases H

end Go.Proofs.YtoeldfopjalpkaaDoor.Q

