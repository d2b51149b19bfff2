/- Lemmas for the proof of one law of this seat (PureRationalLists). -/
import Derived.Test.YtoeldfopjalpkaaDoorZRationalListsFRat3
import Derived.Test.YtoeldfopjalpkaaDoorZRationalListsKnown2
import Derived.Test.YtoeldfopjalpkaaDoorZRationalListsQx30
set_option linter.unusedSimpArgs false
set_option linter.unusedVariables false
namespace Go.Proofs.YtoeldfopjalpkaaDoor.Pure
open Go.RowKit Go.Proofs.YtoeldfopjalpkaaDoorW.PrintWords Go.Proofs.YtoeldfopjalpkaaDoorW.PrintLast Go.Proofs.YtoeldfopjalpkaaDoorW.PrintMore Go.Proofs.YtoeldfopjalpkaaDoor.Q Go.Proofs.YtoeldfopjalpkaaDoor.Nums Go.Proofs.YtoeldfopjalpkaaDoor.Spec
def g (n : Int) : S25 := T (fq n)
theorem g_eq (n : Int) : g n = (⟨(C (fq n)).1, (C (fq n)).2.1, (C (fq n)).2.2⟩ : S25) := rfl
theorem take_snoc {l : List Int} {i : Nat} (h : i < l.length) : (l.take (i + 1)).map g = (l.take i).map g ++ [g (l.getD i 0)] := by
  rw [List.take_add_one, List.map_append, List.getD_eq_getElem?_getD, List.getElem?_eq_getElem h]
  rfl
theorem rev_getD {l : List Int} {i : Nat} (h : i < l.length) : l.reverse.getD i 0 = l.getD (l.length - 1 - i) 0 := by
  rw [List.getD_eq_getElem?_getD, List.getD_eq_getElem?_getD, List.getElem?_reverse h]
theorem all_sz (l : List Int) : ∀ p ∈ l.map fq, Sz 1 p := fun p hp => by
  obtain ⟨n, _, rfl⟩ := List.mem_map.1 hp
  exact fq_sz n
theorem end_ev {l : List Int} (hl : l.length ≤ 8) (a1 : Int) : Ev (fun k => credencelaw2_RationalLists.l0 k l a1 (l.map g) (l.reverse.map g) (l.length : Int)) true := by
  have G : ∀ m : List Int, m.map g = (m.map fq).map T := fun m => by rw [List.map_map]; rfl
  rw [G, G]
  have hS := all_sz l
  have hS' := all_sz l.reverse
  have hlen : (l.map fq).length ≤ 8 := by rw [List.length_map]; exact hl
  have hr : (l.reverse.map fq) = (l.map fq).reverse := List.map_reverse
  rw [hr] at hS'
  rw [hr]
  have hn : (l.length : Int) = ((l.map fq).length : Int) := by rw [List.length_map]
  rw [hn]
  have hm : IntKind.u64.wrap (wrap64 (((l.map fq).length : Int) + 1)) = ((l.map fq).length : Int) + 1 := by
    rw [w64 (by omega) (by omega), u64w (by omega) (by omega)]
  have hx : 0 ≤ IntKind.u64.wrap a1 := by rw [IntKind.wrap_u64]; omega
  have hll : (l.map fq).length = l.length := List.length_map _
  generalize l.map fq = L at *
  obtain ⟨z, hz⟩ : ∃ z, z = IntKind.u64.wrap a1 := ⟨_, rfl⟩
  rw [← hz] at hx
  have t0 := Int.tmod_nonneg ((L.length : Int) + 1) hx
  have t1 := Int.tmod_lt_of_pos z (show 0 < (L.length : Int) + 1 by omega)
  refine suc ?_
  simp only [credencelaw2_RationalLists.l0, ← hll, hm, ← hz]
  rw [w64 (n := Int.tmod z ((L.length : Int) + 1)) (by omega) (by omega)]
  generalize Int.tmod z ((L.length : Int) + 1) = c at *
  obtain ⟨c, rfl⟩ := Int.eq_ofNat_of_zero_le t0
  have s1 := sum_ev (L := L) (by omega) hS
  have s2 := sum_ev (L := L.reverse) (by rw [List.length_reverse]; omega) hS'
  have s3 := sum_ev (L := L.take c) (by rw [List.length_take]; omega) (fun p hp => hS p (List.mem_of_mem_take hp))
  have s4 := sum_ev (L := L.drop c) (by rw [List.length_drop]; omega) (fun p hp => hS p (List.mem_of_mem_drop hp))
  have p1 := prod_ev (L := L) (by omega) hS
  have p2 := prod_ev (L := L.reverse) (by rw [List.length_reverse]; omega) hS'
  have p3 := prod_ev (L := L.take c) (by rw [List.length_take]; omega) (fun p hp => hS p (List.mem_of_mem_take hp))
  have p4 := prod_ev (L := L.drop c) (by rw [List.length_drop]; omega) (fun p hp => hS p (List.mem_of_mem_drop hp))
  have z1 := sum_sz (L := L) hS
  have z3 := sum_sz (L := L.take c) (fun p hp => hS p (List.mem_of_mem_take hp))
  have z4 := sum_sz (L := L.drop c) (fun p hp => hS p (List.mem_of_mem_drop hp))
  have y1 := prod_sz (L := L) hS
  have y3 := prod_sz (L := L.take c) (fun p hp => hS p (List.mem_of_mem_take hp))
  have y4 := prod_sz (L := L.drop c) (fun p hp => hS p (List.mem_of_mem_drop hp))
  have l3 : (L.take c).length ≤ 8 := by rw [List.length_take]; omega
  have l4 : (L.drop c).length ≤ 8 := by rw [List.length_drop]; omega
  have e1 := addC_ev z3 z4 (by omega)
  have e2 := mulC_ev y3 y4 (by omega)
  simp (disch := omega) only [if_neg (show ¬ (L.length : Int) < (L.length : Int) by omega), if_neg (show ¬ (L.length : Int) + 1 = 0 by omega), List.length_map, if_pos t0, if_pos (show ((c : Nat) : Int) ≤ (L.length : Int) by omega), Int.toNat_natCast, ← List.map_take, ← List.map_drop]
  refine Ev.bind s1 (Ev.bind s2 (Ev.bind (sameC_ev (qsum_reverse L).symm z1 (by omega)) ?_))
  simp only [if_true]
  refine Ev.bind p1 (Ev.bind p2 (Ev.bind (sameC_ev (qprod_reverse L).symm y1 (by omega)) ?_))
  simp only [if_true]
  refine Ev.bind s1 (Ev.bind s3 (Ev.bind s4 (Ev.bind e1 (Ev.bind (sameC_ev (qsum_cut L c).symm z1 (by omega)) ?_))))
  simp only [if_true]
  refine Ev.bind p1 (Ev.bind p3 (Ev.bind p4 (Ev.bind e2 (Ev.bind (sameC_ev (qprod_cut L c).symm y1 (by omega)) ?_))))
  simp only [if_true]
  exact Ev.bind known_ev (now fun _ => rfl)
theorem lists_l {l : List Int} (hl : l.length ≤ 8) (a1 : Int) : ∀ (n i : Nat), i + n = l.length → Ev (fun k => credencelaw2_RationalLists.l0 k l a1 ((l.take i).map g) ((l.reverse.take i).map g) (i : Int)) true := by
  intro n
  induction n with
  | zero =>
    intro i hi
    have h1 : l.take i = l := List.take_of_length_le (by omega)
    have h2 : l.reverse.take i = l.reverse := List.take_of_length_le (by rw [List.length_reverse]; omega)
    rw [h1, h2, show i = l.length by omega]
    exact end_ev hl a1
  | succ n ih =>
    intro i hi
    have := ih (i + 1) (by omega)
    rw [take_snoc (by omega), take_snoc (by rw [List.length_reverse]; omega), rev_getD (by omega)] at this
    simp only [g_eq] at this
    have b1 : ((l.take i).map g).length ≤ 8 := by rw [List.length_map, List.length_take]; omega
    have b2 : ((l.reverse.take i).map g).length ≤ 8 := by rw [List.length_map, List.length_take, List.length_reverse]; omega
    have ei : wrap64 (wrap64 ((l.length : Int) - 1) - (i : Int)) = ((l.length - 1 - i : Nat) : Int) := by
      rw [w64 (n := (l.length : Int) - 1) (by omega) (by omega), w64 (by omega) (by omega)]; omega
    refine suc ?_
    have ew : wrap64 ((i : Int) + 1) = ((i + 1 : Nat) : Int) := by rw [w64 (by omega) (by omega)]; rfl
    have c1 : ((l.take i).map g).length < 2513169434916 := by omega
    have c2 : ((l.reverse.take i).map g).length < 2513169434916 := by omega
    have c3 : (i : Int) < (l.length : Int) := by omega
    have c4 : (0 : Int) ≤ (i : Int) := by omega
    have c5 : (0 : Int) ≤ ((l.length - 1 - i : Nat) : Int) := by omega
    have c6 : ((l.length - 1 - i : Nat) : Int) < (l.length : Int) := by omega
    simp only [credencelaw2_RationalLists.l0, if_pos c3, if_pos c4, ei, if_pos c5, if_pos c6, if_pos c1, if_pos c2, rd, Int.toNat_natCast, ew, g_eq]
    refine Ev.bind (fq_ev (l.getD i 0)) ?_
    first | rw [if_pos c1] | skip
    refine Ev.bind (fq_ev (l.getD (l.length - 1 - i) 0)) ?_
    exact this
theorem RationalLists : credencelaw2_RationalLists.Pure := by
  intro l a1 _ _ _ _
  apply Ev.rounds
  simp only [credencelaw2_RationalLists.f]
  by_cases h : (l.length : Int) > 8
  · simp only [if_pos h]
    exact now fun _ => rfl
  · simp only [if_neg h]
    exact lists_l (l := l) (by omega) a1 l.length 0 (by omega)
end Go.Proofs.YtoeldfopjalpkaaDoor.Pure

