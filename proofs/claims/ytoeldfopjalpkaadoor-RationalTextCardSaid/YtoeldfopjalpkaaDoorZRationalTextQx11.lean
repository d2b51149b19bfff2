/- Lemmas for the proof of one law of this seat (Qx11). -/
import Derived.Test.YtoeldfopjalpkaaDoorZRationalTextQx10
namespace Go.Proofs.YtoeldfopjalpkaaDoor.Q
open Go.RowKit Go.Proofs.YtoeldfopjalpkaaDoorW.PrintWords Go.Proofs.YtoeldfopjalpkaaDoorW.PrintLast Go.Proofs.YtoeldfopjalpkaaDoorW.PrintMore
attribute [local go_sem] max2_int min2_int max_two min_two max_three min_three max_four min_four   -- for this text's walks alone
set_option linter.unusedVariables false
set_option linter.unusedSimpArgs false

/-- What the library's TrimLeft computes where the cutset is the digit zero. -/
def strings_TrimLeft.f (k : Nat) (a0 : ByteArray) (a1 : ByteArray) : Option (ByteArray) := if a1.data.toList = [48] then strings_trimLeftByte.f k a0 48 else none
theorem strings_TrimLeft.mono : ∀ a0 a1 k, LeO (strings_TrimLeft.f k a0 a1) (strings_TrimLeft.f (k + 1) a0 a1) := by
 intro a0 a1 k;unfold strings_TrimLeft.f;exact LeO.ite (strings_trimLeftByte.mono _ _ _) (LeO.none _)
set_option maxHeartbeats 4000000 in
set_option maxRecDepth 100000 in
theorem strings_TrimLeft.calls (k : Nat) (a0 : ByteArray) (a1 : ByteArray) (r : ByteArray) (w : World) (h : strings_TrimLeft.f k a0 a1 = some r) :
 Calls Tryd.prog 84 #[.string a0, .string a1] w fun e w' => e = .returned (.string r) ∧ Drawn0 w w' := by
 unfold strings_TrimLeft.f at h
 split at h
 ·rename_i hc
  have e1 : a1 = ⟨#[48]⟩ := by
   obtain ⟨⟨l⟩⟩ := a1;simp only at hc;subst hc
   rfl
  subst e1;by_cases h0 : a0.size = 0
  ·have e0 : a0 = ⟨#[]⟩ := by
    obtain ⟨⟨l⟩⟩ := a0;cases l with
    | nil => rfl
    | cons x l => simp [ByteArray.size] at h0
   subst e0
   have hr : r = ⟨#[]⟩ := by
    cases k with
    | zero => simp [strings_trimLeftByte.f, strings_trimLeftByte.l0] at h
    | succ k =>
     rw [show strings_trimLeftByte.f (k + 1) (⟨#[]⟩ : ByteArray) 48 = some ⟨#[]⟩ from rfl] at h;exact (Option.some.inj h).symm
   subst hr;go_enter Tryd.func84, Tryd.ntmps84
   go_wp2
   go_ret
   exact ⟨rfl, zW⟩
  have A0 := zA h;clear h
  have hne : ¬ a0.toList = [] := by
   intro h1;rw [Lib.toList_data] at h1
   apply h0
   show a0.data.size = 0
   rw [← Array.length_toList, h1]
   rfl
  go_enter Tryd.func84, Tryd.ntmps84
  go_wp2_with (go_at_call 96; refine (strings_trimLeftByte.calls k a0 48 r _ A0.out).mono ?_; rintro e w' ⟨rfl, ⟨nd, rfl⟩⟩)
  all_goals first
   | (exfalso; apply hne; assumption)
   | (exfalso; apply hne; exact List.isEmpty_iff.1 (by assumption))
   | (go_ret; exact ⟨rfl, zW⟩)
 exact absurd h (by simp)

end Go.Proofs.YtoeldfopjalpkaaDoor.Q

