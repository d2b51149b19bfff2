/- Lemmas for the proof of one law of this seat (Sq). -/
import Derived.Test.YtoeldfopjalpkaaDoorZRationalTextWMore
namespace Go.Proofs.YtoeldfopjalpkaaDoor.Q
open Go.RowKit Go.Proofs.YtoeldfopjalpkaaDoorW.PrintWords Go.Proofs.YtoeldfopjalpkaaDoorW.PrintLast Go.Proofs.YtoeldfopjalpkaaDoorW.PrintMore
theorem zr {α : Type} {d : Kd α} {e : Nat} {w wm : World} {base : Nat} {ok : Nat → Prop} {v : Value} {xs : List α} (h : Aside0 (Kd.R d e w base ok v xs)) (q : w.heap = wm.heap) : Kd.R d e wm base ok v xs := Kd.R_step h.out (fun k _ _ => by rw [q])
theorem zb {n : Nat} {w0 w wm : World} (h : Aside0 (Below n w0 w)) (q : (w.os, w.tape, w.output, w.heap) = (wm.os, wm.tape, wm.output, wm.heap)) : Below n w0 wm := by
  injection q with q1 q
  injection q with q2 q
  injection q with q3 q4
  exact ⟨by rw [← q1]; exact h.out.os, by rw [← q2]; exact h.out.tape, by rw [← q3]; exact h.out.output, by rw [← q4]; exact h.out.size, fun k hk => by rw [← q4]; exact h.out.block k hk⟩
theorem zv {α : Type} {d : Kd α} {e : Nat} {w wm : World} {base : Nat} {ok : Nat → Prop} {v : Value} {xs : List α} (h : Aside0 (Kd.V d e w base ok v xs)) (q : (w.os, w.tape, w.output, w.heap) = (wm.os, wm.tape, wm.output, wm.heap)) : Kd.V d e wm base ok v xs := Kd.V_below h.out (zb ⟨Below.refl _ _⟩ q)
end Go.Proofs.YtoeldfopjalpkaaDoor.Q

