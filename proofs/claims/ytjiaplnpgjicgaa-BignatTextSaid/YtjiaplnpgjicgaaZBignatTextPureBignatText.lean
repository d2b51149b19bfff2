/- Lemmas for the proof of one law of this seat (PureBignatText). -/
import Derived.Test.YtjiaplnpgjicgaaZBignatTextSpec12
import Derived.Test.YtjiaplnpgjicgaaZBignatTextKnown1
set_option linter.unusedSimpArgs false
set_option linter.unusedVariables false
namespace Go.Proofs.Ytjiaplnpgjicgaa.Pure
open Go.RowKit Go.Proofs.YtjiaplnpgjicgaaW.PrintWords Go.Proofs.YtjiaplnpgjicgaaW.PrintLast Go.Proofs.YtjiaplnpgjicgaaW.PrintMore Go.Proofs.Ytjiaplnpgjicgaa.Q Go.Proofs.Ytjiaplnpgjicgaa.Nums Go.Proofs.Ytjiaplnpgjicgaa.Spec
theorem same_self {xs : List Int} (h : Big xs) : Ev (fun k => credencelaw1_same.f k xs xs) true := same_ev xs h
theorem and7 (x : Int) : 0 ≤ Go.bits .and .u8 x 7 ∧ Go.bits .and .u8 x 7 ≤ 7 := by
  unfold Go.bits
  have : (BitVec.ofInt IntKind.u8.bits x &&& BitVec.ofInt IntKind.u8.bits 7).toNat ≤ 7 := by
    rw [BitVec.toNat_and]
    exact Nat.and_le_right
  simp only
  rw [IntKind.wrap_u8]
  omega
theorem text_l {a : List Int} (ha : U a) (sa : a.length ≤ 8) (hl : (rd10 (V a)).length ≤ 100) {x2 : Int} {p : List Int × Int} (hp : Big p.1) : ∀ (n : Nat) (s : ByteArray) (x : Int), 0 ≤ x → x + n = 8 → s.size ≤ 1000 + x.toNat →
    Ev (fun k => credencelaw1_BignatText.l0 k x2 a (txt (V a)) p.1 p.2 p.1 p.2 s x) true
  | n, s, x, x0, hx, hs => by
    have h7 := and7 x2
    by_cases h : x < Go.bits .and .u8 x2 7
    · match n, hx with
      | 0, hx => omega
      | n + 1, hx =>
        have e : (x + 1) % 256 = x + 1 := by omega
        have hz : ((⟨#[48]⟩ : ByteArray) ++ s).size = 1 + s.size := by rw [ByteArray.size_append]; rfl
        have ih := text_l (x2 := x2) ha sa hl hp n ((⟨#[48]⟩ : ByteArray) ++ s) (x + 1) (by omega) (by omega) (by omega)
        refine suc ?_
        simp (disch := omega) only [credencelaw1_BignatText.l0, if_pos, e]
        exact ih
    · have hs4 : s.size ≤ 4000 := by omega
      refine suc ?_
      simp (disch := omega) only [credencelaw1_BignatText.l0, if_neg]
      refine Ev.bind (parse_ev hs4) (Ev.bind (nparse_ev hs4) (Ev.bind (nformat_ev ha (eight sa) (by omega)) ?_))
      simp only [if_true]
      refine Ev.bind (same_self hp) ?_
      simp only [if_true]
      refine Ev.bind (same_self (parO_small hs4)) ?_
      simp only [if_true]
      exact Ev.bind known_ev (now fun _ => rfl)
theorem BignatText : credencelaw1_BignatText.Pure := by
  intro l0 a1 a2 _ _ w0 _ _
  obtain ⟨a, ea, ua, la⟩ := nat_ev w0
  have xa := Lim.eight ua la
  have hl : (rd10 (V a)).length ≤ 78 := rd10_len (Int.lt_of_lt_of_le xa.2 (by decide))
  apply Ev.rounds
  simp only [credencelaw1_BignatText.f]
  by_cases h : (a1.size : Int) > 100
  · simp only [if_pos h]
    exact now fun _ => rfl
  · have hs4 : a1.size ≤ 4000 := by omega
    have hts : (txt (V a)).size ≤ 1000 := by
      unfold txt
      split
      · rw [strOfNums_size, List.length_reverse]; omega
      · decide
    simp only [if_neg h]
    refine Ev.bind ea (Ev.bind (format_ev ua (eight la).big (by omega)) (Ev.bind (parse_ev hs4) (Ev.bind (nparse_ev hs4) ?_)))
    exact text_l ua la (by omega) (parO_small hs4) 8 (txt (V a)) 0 (Int.le_refl 0) (by omega) (by omega)
end Go.Proofs.Ytjiaplnpgjicgaa.Pure

