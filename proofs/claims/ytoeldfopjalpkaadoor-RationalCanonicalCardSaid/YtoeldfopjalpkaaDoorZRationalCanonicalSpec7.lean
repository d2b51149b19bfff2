/- Lemmas for the proof of one law of this seat (Spec7). -/
import Derived.Test.YtoeldfopjalpkaaDoorZRationalCanonicalSpec6
set_option linter.unusedSimpArgs false
set_option linter.unusedVariables false
namespace Go.Proofs.YtoeldfopjalpkaaDoor.Spec
open Go.RowKit Go.Proofs.YtoeldfopjalpkaaDoorW.PrintWords Go.Proofs.YtoeldfopjalpkaaDoorW.PrintLast Go.Proofs.YtoeldfopjalpkaaDoorW.PrintMore Go.Proofs.YtoeldfopjalpkaaDoor.Q Go.Proofs.YtoeldfopjalpkaaDoor.Nums

theorem Ev.map' {α β : Type} {g : Nat → Option α} {a : α} (h : Ev g a) (f : α → β) : Ev (fun k => (g k).map f) (f a) := by
  obtain ⟨K, h⟩ := h
  exact ⟨K, fun k hk => by simp only [h k hk, Option.map_some]⟩
theorem V_drop_step {u : List Int} {i : Nat} (h : i < u.length) : V (u.drop i) = u.getD i 0 + 4294967296 * V (u.drop (i + 1)) := by
  rw [List.drop_eq_getElem_cons h, V_cons, List.getD_eq_getElem?_getD, List.getElem?_eq_getElem h]; rfl
theorem ediv_of {r d q : Int} (h0 : 0 ≤ r) (h1 : r < d) : (r + d * q) / d = q ∧ (r + d * q) % d = r := by
  constructor
  · rw [Int.add_mul_ediv_left _ _ (by omega), Int.ediv_eq_zero_of_lt h0 h1, Int.zero_add]
  · rw [Int.add_mul_emod_self_left, Int.emod_eq_of_lt h0 h1]
theorem quot_of {r d q x : Int} (e : x = r + d * q) (h0 : 0 ≤ r) (h1 : r < d) : x / d = q ∧ x % d = r := by rw [e]; exact ediv_of h0 h1
theorem mul_mono {a b c : Int} (h : a ≤ b) (hc : 0 ≤ c) : a * c ≤ b * c := Int.mul_le_mul_of_nonneg_right h hc

theorem guess_lo {W d T3 U3 P v' w' G : Int} (hW : W = U3 * P + w') (hd : d = T3 * P + v') (hv : 0 ≤ v') (hw : w' < P) (hP : 0 < P) (hG : 0 ≤ G) (h : U3 < G * T3) : W < G * d := by
  have h1 : (U3 + 1) * P ≤ G * T3 * P := mul_mono (by omega) (by omega)
  have h2 : 0 ≤ G * v' := Int.mul_nonneg hG hv
  rw [hd, Int.mul_add, ← Int.mul_assoc, hW]
  rw [Int.add_mul, Int.one_mul] at h1
  omega
theorem guess_hi {W d T3 U3 P v' w' G : Int} (hW : W = U3 * P + w') (hd : d = T3 * P + v') (hv0 : 0 ≤ v') (hv : v' < P) (hw : 0 ≤ w') (hP : 0 < P) (hT : 4294967296 ≤ T3) (hG : 0 ≤ G) (hG1 : G ≤ 4294967295) (h : G * T3 ≤ U3) : (G - 1) * d ≤ W := by
  have h1 : G * T3 * P ≤ U3 * P := mul_mono h (by omega)
  have h2 : G * v' ≤ 4294967295 * P := Int.mul_le_mul hG1 (by omega) hv0 (by omega)
  have h3 : 4294967296 * P ≤ T3 * P := mul_mono hT (by omega)
  rw [Int.sub_mul, Int.one_mul, hd, Int.mul_add, ← Int.mul_assoc, hW]
  omega
theorem quot_le {W d q : Int} (hd : 0 < d) (h : q * d ≤ W) : q ≤ W / d := Int.le_ediv_of_mul_le hd h
theorem quot_lt {W d q : Int} (hd : 0 < d) (h : W < q * d) : W / d < q := Int.ediv_lt_of_lt_mul hd h

section
variable {n s : Nat} {v : List Int} {top next d : Int}
/-- What the divisor is, and what the loops know of it. -/
structure Dv (n : Nat) (v : List Int) (top next d : Int) (v' : Int) : Prop where
  len : v.length = n
  two : 2 ≤ n
  small : n ≤ 1048576
  dig : U v
  val : V v = d
  parts : d = (top * 4294967296 + next) * 4294967296 ^ (n - 2) + v'
  v0 : 0 ≤ v'
  v1 : v' < 4294967296 ^ (n - 2)
  top0 : 2147483648 ≤ top
  top1 : top < 4294967296
  next0 : 0 ≤ next
  next1 : next < 4294967296
theorem Dv.pos {v' : Int} (h : Dv n v top next d v') : 0 < d := by
  have h1 := pow_pos (n - 2)
  have h2 : 1 * 4294967296 ^ (n - 2) ≤ (top * 4294967296 + next) * 4294967296 ^ (n - 2) := mul_mono (by have := h.top0; have := h.next0; omega) (by omega)
  have := h.v0
  have := h.parts
  omega
theorem Dv.lt {v' : Int} (h : Dv n v top next d v') : d < 4294967296 ^ n := by
  have := V_lt h.dig
  rwa [h.val, h.len] at this
/-- The part of the dividend that a round looks at. -/
structure Ud (n m j : Nat) (u : List Int) (d W a2 a1 a0 w' : Int) : Prop where
  len : u.length = m + 1
  le : j + n ≤ m
  small : m ≤ 1048576
  dig : U u
  val : V (u.drop j) = W
  up : V (u.drop (j + n + 1)) = 0
  lt : W < 4294967296 * d
  e2 : u.getD (j + n) 0 = a2
  e1 : u.getD (j + n - 1) 0 = a1
  e0 : u.getD (j + n - 2) 0 = a0
  parts : W = ((a2 * 4294967296 + a1) * 4294967296 + a0) * 4294967296 ^ (n - 2) + w'
  w0 : 0 ≤ w'
  w1 : w' < 4294967296 ^ (n - 2)
theorem Ud.of {m j : Nat} {u : List Int} {v' : Int} (hd : Dv n v top next d v') (hl : u.length = m + 1) (hj : j + n ≤ m) (hm : m ≤ 1048576) (hu : U u) (h : V (u.drop (j + 1)) < d) :
    Ud n m j u d (V (u.drop j)) (u.getD (j + n) 0) (u.getD (j + n - 1) 0) (u.getD (j + n - 2) 0) (V ((u.drop j).take (n - 2))) := by
  have h2 := hd.two
  have hup : V (u.drop (j + n + 1)) = 0 := by
    have e := V_split (u.drop (j + 1)) n (by rw [List.length_drop]; omega)
    rw [List.drop_drop] at e
    have h1 := V_nonneg (U_take (U_drop hu (j + 1)) n)
    have h3 := V_nonneg (U_drop hu (j + 1 + n))
    have h4 := hd.lt
    have hp := pow_pos n
    rw [show j + n + 1 = j + 1 + n by omega]
    by_cases h0 : V (u.drop (j + 1 + n)) = 0
    · exact h0
    · have : (4294967296 : Int) ^ n * 1 ≤ 4294967296 ^ n * V (u.drop (j + 1 + n)) := Int.mul_le_mul_of_nonneg_left (by omega) (by omega)
      omega
  have dj := U_getD hu j
  refine ⟨hl, hj, hm, hu, rfl, hup, ?_, rfl, rfl, rfl, ?_, V_nonneg (U_take (U_drop hu j) _), ?_⟩
  · rw [V_drop_step (by omega)]
    omega
  · rw [V_split (u.drop j) (n - 2) (by rw [List.length_drop]; omega), List.drop_drop, V_drop_step (show j + (n - 2) < u.length by omega), V_drop_step (show j + (n - 2) + 1 < u.length by omega), V_drop_step (show j + (n - 2) + 1 + 1 < u.length by omega)]
    rw [show j + (n - 2) + 1 + 1 + 1 = j + n + 1 by omega, hup, show j + (n - 2) + 1 + 1 = j + n by omega, show j + (n - 2) + 1 = j + n - 1 by omega, show j + (n - 2) = j + n - 2 by omega]
    rw [Int.mul_comm (4294967296 ^ (n - 2))]
    generalize (4294967296 : Int) ^ (n - 2) = P
    rw [show u.getD (j + n - 2) 0 + 4294967296 * (u.getD (j + n - 1) 0 + 4294967296 * (u.getD (j + n) 0 + 4294967296 * 0)) = (u.getD (j + n) 0 * 4294967296 + u.getD (j + n - 1) 0) * 4294967296 + u.getD (j + n - 2) 0 by omega]
    omega
  · have := V_lt (U_take (U_drop hu j) (n - 2))
    rwa [List.length_take, List.length_drop, Nat.min_eq_left (by omega)] at this

theorem fp_ev {u : List Int} {m j : Nat} {W a2 a1 a0 w' v' : Int} (hv : Dv n v top next d v') (hu : Ud n m j u d W a2 a1 a0 w') (g : Int) (g0 : 0 ≤ g) (g1 : g < 4294967296) :
    ∃ b r, Ev (fun k => bignat_subtractScaled.fp k u j ((j + n + 1 : Nat) : Int) v g) (b, u.take j ++ r ++ u.drop (j + n + 1)) ∧ r.length = n + 1 ∧ U r ∧ V r = W - g * d + (if b = true then 4294967296 ^ (n + 1) else 0) := by
  have hl : ((u.take (j + n + 1)).drop j).length = n + 1 := by rw [List.length_drop, List.length_take, hu.len]; have := hu.le; omega
  have hw : V ((u.take (j + n + 1)).drop j) = W := by
    rw [← hu.val, List.drop_take, show j + n + 1 - j = n + 1 by omega, V_split (u.drop j) (n + 1) (by rw [List.length_drop, hu.len]; have := hu.le; omega), List.drop_drop, ← Nat.add_assoc, hu.up, Int.mul_zero, Int.add_zero]
  obtain ⟨b, r, he, hr, ur, hv2⟩ := ss_ev (U_drop (U_take hu.dig (j + n + 1)) j) hv.dig (by unfold Small; rw [hl]; have := hv.small; omega) (by rw [hl, hv.len]) g g0 g1
  rw [hl, hw, hv.val] at hv2
  refine ⟨b, r, ?_, by rw [hr, hl], ur, hv2⟩
  unfold bignat_subtractScaled.fp
  simp only [Int.toNat_natCast]
  exact Ev.map' he _
theorem fb_ev {u r : List Int} {m j : Nat} {W a2 a1 a0 w' v' : Int} (hv : Dv n v top next d v') (hu : Ud n m j u d W a2 a1 a0 w') (hr : r.length = n + 1) (ur : U r) :
    ∃ t, Ev (fun k => bignat_addBack.fp k (u.take j ++ r ++ u.drop (j + n + 1)) j ((j + n + 1 : Nat) : Int) v) (u.take j ++ t ++ u.drop (j + n + 1)) ∧ t.length = n + 1 ∧ U t ∧ (V t = V r + d ∨ V t = V r + d - 4294967296 ^ (n + 1)) := by
  have hj : (u.take j).length = j := by rw [List.length_take, hu.len]; have := hu.le; omega
  have e1 : ((u.take j ++ r ++ u.drop (j + n + 1)).take (j + n + 1)).drop j = r := by
    rw [List.append_assoc, List.drop_take, List.drop_left' hj, show j + n + 1 - j = n + 1 by omega, List.take_left' hr]
  have e2 : (u.take j ++ r ++ u.drop (j + n + 1)).take j = u.take j := by rw [List.append_assoc, List.take_left' hj]
  have e3 : (u.take j ++ r ++ u.drop (j + n + 1)).drop (j + n + 1) = u.drop (j + n + 1) := List.drop_left' (by rw [List.length_append, hj, hr]; omega)
  obtain ⟨t, he, ht, ut, hv2⟩ := ab_ev ur hv.dig (by unfold Small; rw [hr]; have := hv.small; omega) (by rw [hr, hv.len])
  rw [hr, hv.val] at hv2
  refine ⟨t, ?_, by rw [ht, hr], ut, hv2⟩
  unfold bignat_addBack.fp
  simp only [Int.toNat_natCast, e1, e2, e3]
  exact Ev.map' he _

/-- A guess that is right or one too large: the round puts the digit and goes on with the rest. -/
theorem j3_ev {u q : List Int} {m j : Nat} {W a2 a1 a0 w' v' : Int} {R : List Int × List Int} (hv : Dv n v top next d v') (hu : Ud n m j u d W a2 a1 a0 w') (hq : q.length = m - n + 1) (G : Int) (hG0 : W / d ≤ G) (hG1 : G ≤ W / d + 1) (hG2 : G ≤ 4294967295)
    (go : ∀ t : List Int, t.length = n + 1 → U t → V t = W % d → Ev (fun k => bignat_divLong.l0 k n s (u.take j ++ t ++ u.drop (j + n + 1)) v (q.set j (W / d)) top next ((j : Int) - 1)) R) :
    Ev (fun k => bignat_divLong.j3 k n s u v q top next j G) R := by
  have hd := hv.pos
  have hW0 : 0 ≤ W := by rw [← hu.val]; exact V_nonneg (U_drop hu.dig j)
  have hq0 : 0 ≤ W / d := Int.ediv_nonneg hW0 (by omega)
  have hle := hu.le
  have hsm := hu.small
  have hl := hu.len
  have hdm := Int.emod_add_mul_ediv W d
  have hm0 := Int.emod_nonneg W (show d ≠ 0 by omega)
  have hm1 := Int.emod_lt_of_pos W hd
  have hlt := hv.lt
  have hpn := pow_succ' n
  have hpp := pow_pos n
  obtain ⟨b, r, he, hr, ur, hvr⟩ := fp_ev hv hu G (by omega) (by omega)
  have hrn := V_lt ur
  have hr0 := V_nonneg ur
  rw [hr] at hrn
  have es : ((j : Int) + (n : Int)) = ((j + n : Nat) : Int) := by omega
  have es2 : (((j + n : Nat) : Int) + 1) = ((j + n + 1 : Nat) : Int) := by omega
  refine suc ?_
  simp (disch := omega) only [bignat_divLong.j3, if_pos, w64, es, es2]
  refine Ev.bind he ?_
  by_cases hc : G = W / d
  · have hGd : G * d = d * (W / d) := by rw [hc, Int.mul_comm]
    have hb : b = false := by
      cases b with
      | false => rfl
      | true =>
        rw [if_pos rfl] at hvr
        omega
    subst hb
    rw [if_neg (by decide)] at hvr
    have hg := go r hr ur (by omega)
    rw [← hc] at hg
    have eG : G % 4294967296 = G := by omega
    simp (disch := omega) only [Bool.false_eq_true, if_false, if_pos, Int.toNat_natCast, w64, eG]
    exact hg
  · have hc' : G = W / d + 1 := by omega
    have hGd : G * d = d * (W / d) + d := by rw [hc', Int.add_mul, Int.one_mul, Int.mul_comm]
    have hb : b = true := by
      cases b with
      | true => rfl
      | false =>
        rw [if_neg (by decide)] at hvr
        omega
    subst hb
    rw [if_pos rfl] at hvr
    obtain ⟨t, hf, ht, ut, hvt⟩ := fb_ev hv hu hr ur
    have ht0 := V_nonneg ut
    have ht1 := V_lt ut
    rw [ht] at ht1
    have hg := go t ht ut (by omega)
    have eG : IntKind.u64.wrap (G - 1) % 4294967296 = W / d := by rw [IntKind.wrap_u64]; omega
    simp only [if_true]
    refine Ev.bind hf ?_
    simp (disch := omega) only [if_pos, Int.toNat_natCast, w64, eG]
    exact hg
/-- The guess is lowered until it is right or one too large. -/
theorem l1_ev {u q : List Int} {m j : Nat} {W a2 a1 a0 w' v' : Int} {R : List Int × List Int} (hv : Dv n v top next d v') (hu : Ud n m j u d W a2 a1 a0 w')
    (go : ∀ G : Int, W / d ≤ G → G ≤ W / d + 1 → G ≤ 4294967295 → Ev (fun k => bignat_divLong.j3 k n s u v q top next j G) R) :
    ∀ (N : Nat) (G rest : Int), G.toNat ≤ N → W / d ≤ G → G ≤ 4294967297 → 0 ≤ rest → rest < 4294967296 → G * top + rest = a2 * 4294967296 + a1 → Ev (fun k => bignat_divLong.l1 k n s u v q top next j G rest) R := by
  have hd := hv.pos
  have hW0 : 0 ≤ W := by rw [← hu.val]; exact V_nonneg (U_drop hu.dig j)
  have hq0 : 0 ≤ W / d := Int.ediv_nonneg hW0 (by omega)
  have hle := hu.le
  have hsm := hu.small
  have hl := hu.len
  have h2n := hv.two
  have hPp := pow_pos (n - 2)
  have htop0 := hv.top0
  have htop1 := hv.top1
  have hn0 := hv.next0
  have hn1 := hv.next1
  have da := U_getD hu.dig (j + n - 2)
  rw [hu.e0] at da
  have hT : 4294967296 ≤ top * 4294967296 + next := by omega
  -- the first digits of the dividend are at most those of the divisor
  have htwo : a2 * 4294967296 + a1 ≤ top * 4294967296 + 4294967295 := by
    have h1 := hu.lt
    rw [hu.parts, hv.parts] at h1
    have h3 := hu.w0
    have h4 := hv.v1
    have hP : 0 < (4294967296 : Int) ^ (n - 2) := hPp
    generalize (4294967296 : Int) ^ (n - 2) = P at *
    by_cases hc : a2 * 4294967296 + a1 ≤ top * 4294967296 + 4294967295
    · exact hc
    · exfalso
      have h5 : (top + 1) * 4294967296 * 4294967296 * P ≤ ((a2 * 4294967296 + a1) * 4294967296 + a0) * P := mul_mono (by omega) (by omega)
      have h6 : (top * 4294967296 + next + 1) * P ≤ (top + 1) * 4294967296 * P := mul_mono (by omega) (by omega)
      have h7 : (top + 1) * 4294967296 * 4294967296 * P = 4294967296 * ((top + 1) * 4294967296 * P) := by
        rw [Int.mul_assoc, Int.mul_assoc, Int.mul_assoc, Int.mul_left_comm 4294967296, Int.mul_left_comm 4294967296 (top + 1)]
      rw [Int.add_mul, Int.one_mul] at h6
      omega
  have hq1 : W / d < 4294967296 := quot_lt hd hu.lt
  -- a guess that is refused is too large
  have down : ∀ G rest : Int, 0 ≤ G → 0 ≤ rest → G * top + rest = a2 * 4294967296 + a1 → (4294967296 ≤ G ∨ rest * 4294967296 + a0 < G * next) → W / d < G := by
    intro G rest g0 r0 e h
    rcases h with h | h
    · omega
    · refine quot_lt hd (guess_lo hu.parts hv.parts hv.v0 hu.w1 hPp g0 ?_)
      rw [Int.mul_add, ← Int.mul_assoc, ← e, Int.add_mul]
      omega
  have fine : ∀ G rest : Int, 0 ≤ G → G ≤ 4294967295 → 0 ≤ rest → G * top + rest = a2 * 4294967296 + a1 → G * next ≤ rest * 4294967296 + a0 → G ≤ W / d + 1 := by
    intro G rest g0 g1 r0 e h
    have := quot_le hd (guess_hi hu.parts hv.parts hv.v0 hv.v1 hu.w0 hPp hT g0 g1 (by
      rw [Int.mul_add, ← Int.mul_assoc, ← e, Int.add_mul]
      omega))
    omega
  have es : ((j : Int) + (n : Int)) = ((j + n : Nat) : Int) := by omega
  have es2 : (((j + n : Nat) : Int) - 2) = ((j + n - 2 : Nat) : Int) := by omega
  have rn : rd u ((j + n - 2 : Nat) : Int) = a0 := hu.e0
  intro N
  induction N with
  | zero =>
    intro G rest hN hG0 hG1 r0 r1 e
    obtain rfl : G = 0 := by omega
    refine suc (suc ?_)
    have h0 : ¬ (IntKind.u64.wrap (0 * next) > Go.bits .or .u64 (IntKind.u64.wrap (rest * 4294967296)) (IntKind.u64.wrap a0)) := by
      rw [u64w (n := rest * 4294967296) (by omega) (by omega), u64w (n := a0) (by omega) (by omega), or_hi r0 r1 da.1 da.2, Int.zero_mul, u64w (n := 0) (by omega) (by omega)]
      omega
    simp (disch := omega) only [bignat_divLong.l1, if_pos, w64, es, es2, rn, decide_eq_false h0, bignat_divLong.j2]
    simp only [Bool.false_eq_true, if_false]
    exact go 0 hG0 (by omega) (by omega)
  | succ N ih =>
    intro G rest hN hG0 hG1 r0 r1 e
    have stop : ∀ b : Bool, b = true → (4294967296 ≤ G ∨ rest * 4294967296 + a0 < G * next) → Ev (fun k => bignat_divLong.j2 k n s u v q top next j G rest b) R := by
      intro b hb hbig
      subst hb
      have hlt := down G rest (by omega) r0 e hbig
      have e1 : (G - 1) * top + (rest + top) = a2 * 4294967296 + a1 := by rw [Int.sub_mul, Int.one_mul]; omega
      refine suc ?_
      simp (disch := omega) only [bignat_divLong.j2, u64w]
      simp only [if_true]
      by_cases hr : rest + top < 4294967296
      · rw [show (fun k => if (rest + top) / 4294967296 = 0 then bignat_divLong.l1 k n s u v q top next j (G - 1) (rest + top) else bignat_divLong.j3 k n s u v q top next j (G - 1)) = fun k => bignat_divLong.l1 k n s u v q top next j (G - 1) (rest + top) from by funext k; rw [if_pos (by omega)]]
        exact ih (G - 1) (rest + top) (by omega) (by omega) (by omega) (by omega) (by omega) e1
      · rw [show (fun k => if (rest + top) / 4294967296 = 0 then bignat_divLong.l1 k n s u v q top next j (G - 1) (rest + top) else bignat_divLong.j3 k n s u v q top next j (G - 1)) = fun k => bignat_divLong.j3 k n s u v q top next j (G - 1) from by funext k; rw [if_neg (by omega)]]
        have hGs : G - 1 ≤ 4294967295 := by
          by_cases hc : G - 1 ≤ 4294967295
          · exact hc
          · exfalso
            have : 4294967296 * top ≤ (G - 1) * top := mul_mono (by omega) (by omega)
            omega
        have hmn : (G - 1) * next ≤ 4294967295 * 4294967295 := Int.mul_le_mul hGs (by omega) hn0 (by omega)
        exact go (G - 1) (by omega) (fine (G - 1) (rest + top) (by omega) hGs (by omega) e1 (by omega)) hGs
    refine suc ?_
    by_cases hb : 4294967296 ≤ G
    · simp (disch := omega) only [bignat_divLong.l1, if_neg]
      exact stop true rfl (.inl hb)
    · have hmn : 0 ≤ G * next ∧ G * next ≤ 18446744065119617025 := mul_bound (by omega) (by omega) hn0 hn1
      have ev : (IntKind.u64.wrap (G * next) > Go.bits .or .u64 (IntKind.u64.wrap (rest * 4294967296)) (IntKind.u64.wrap a0)) = (rest * 4294967296 + a0 < G * next) := by
        rw [u64w (n := rest * 4294967296) (by omega) (by omega), u64w (n := a0) (by omega) (by omega), or_hi r0 r1 da.1 da.2, u64w hmn.1 (by omega)]
      simp (disch := omega) only [bignat_divLong.l1, if_pos, w64, es, es2, rn, ev]
      by_cases ht : rest * 4294967296 + a0 < G * next
      · exact stop _ (decide_eq_true ht) (.inr ht)
      · refine suc ?_
        simp only [bignat_divLong.j2, decide_eq_false ht, Bool.false_eq_true, if_false]
        exact go G hG0 (fine G rest (by omega) (by omega) r0 e (by omega)) (by omega)
end
end Go.Proofs.YtoeldfopjalpkaaDoor.Spec

