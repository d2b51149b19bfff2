/- Lemmas for the proof of one law of this seat (Qx9). -/
import Derived.Test.YtoeldfopjalpkaaDoorZRationalTextQx0
namespace Go.Proofs.YtoeldfopjalpkaaDoor.Q
open Go.RowKit Go.Proofs.YtoeldfopjalpkaaDoorW.PrintWords Go.Proofs.YtoeldfopjalpkaaDoorW.PrintLast Go.Proofs.YtoeldfopjalpkaaDoorW.PrintMore
attribute [local go_sem] max2_int min2_int max_two min_two max_three min_three max_four min_four   -- for this text's walks alone
set_option linter.unusedVariables false
set_option linter.unusedSimpArgs false

set_option maxHeartbeats 2000000 in
set_option maxRecDepth 100000 in
/-- The index of a byte: the library's own text is walked; at its end stands the model's own entry. -/
theorem stringslite_IndexByte_hand (s : ByteArray) (c : Int) (w : World) :
 Calls Tryd.prog 106 #[.string s, .int .u8 c] w fun e w' => e = .returned (.int .i64 (Lib.indexByte s.data.toList c.toNat.toUInt8)) ∧ w' = w := by
 go_enter Tryd.func106, Tryd.ntmps106
 go_wp2
 rw [run_callFunc_extern Tryd.func113 zk zk zk (e := Extern.BytealgIndexByte.indexByte) zk, Lib.run_indexByteString];simp only [Result.andThen];rw [Oper.upon_value]
 go_wp2
 go_ret
 exact ⟨rfl, rfl⟩
set_option maxHeartbeats 2000000 in
set_option maxRecDepth 100000 in
theorem stringslite_Index_hand (s : ByteArray) (c : UInt8) (w : World) :
 Calls Tryd.prog 95 #[.string s, .string ⟨#[c]⟩] w fun e w' => e = .returned (.int .i64 (Lib.indexByte s.data.toList c)) ∧ w' = w := by
 go_enter Tryd.func95, Tryd.ntmps95
 go_wp2_with (go_at_call 106; refine (stringslite_IndexByte_hand _ _ _).mono ?_; rintro e w' ⟨rfl, rfl⟩)
 ·have h : ([c] == s.toList) = true := by assumption
  go_ret
  refine ⟨?_, rfl⟩;have e : s.data.toList = [c] := by rw [← Lib.toList_data]; exact (beq_iff_eq.1 h).symm
  rw [e]
  simp [Lib.indexByte]
 go_ret
 exact ⟨rfl, rfl⟩
/-- What the library's Index computes where the second string is one byte. -/
def stringslite_Index.f (a0 : ByteArray) (a1 : ByteArray) : Option (Int) := match a1.data.toList with
 | [c] => some (Lib.indexByte a0.data.toList c)
 | _ => none
theorem stringslite_Index.calls (a0 : ByteArray) (a1 : ByteArray) (r : Int) (w : World) (h : stringslite_Index.f a0 a1 = some r) :
 Calls Tryd.prog 95 #[.string a0, .string a1] w fun e w' => e = .returned (.int .i64 r) ∧ Drawn0 w w' := by
 unfold stringslite_Index.f at h
 split at h
 ·rename_i c hc
  have e1 : a1 = ⟨#[c]⟩ := by
   obtain ⟨⟨l⟩⟩ := a1;simp only at hc;subst hc
   rfl
  subst e1;injection h with h;subst h;refine (stringslite_Index_hand a0 c w).mono ?_;rintro e w' ⟨rfl, rfl⟩;exact ⟨rfl, Drawn0.refl _⟩
 exact absurd h (by simp)

end Go.Proofs.YtoeldfopjalpkaaDoor.Q

