-- by xprint.py, a program of this session, over the kit's print.py
import Derived.Test.YtohddbiedabmhaaT0
import Derived.Test.YtohddbiedabmhaaFWireText
import Derived.Test.YtohddbiedabmhaaGWireFieldBytes
namespace Go.Proofs.Ytohddbiedabmhaa.X
open Go.RowKit Go.Proofs.YtohddbiedabmhaaW.PrintWords Go.Proofs.YtohddbiedabmhaaW.PrintLast Go.Proofs.YtohddbiedabmhaaW.PrintMore
attribute [local go_sem] max2_int min2_int max_two min_two max_three min_three max_four min_four   -- for this text's walks alone
set_option linter.unusedVariables false
set_option linter.unusedSimpArgs false

def wire_Text_s.f (a0 : Int) (a1 : ByteArray) : Option ByteArray := wire_Field_Bytes_s.f a0 2 0 a1
theorem wire_Text_s.ev (a0 : Int) (a1 : ByteArray) (r) (h : wire_Text_s.f a0 a1 = some r) : ∃ k : Nat, wire_Text.f a0 a1 = some r := by
  unfold wire_Text_s.f at h
  exact ⟨0, by unfold wire_Text.f; rw [h]; rfl⟩

set_option maxHeartbeats 1000000 in
theorem wire_Text_s.calls (a0 : Int) (a1 : ByteArray) (r : ByteArray) (w : World) (h : wire_Text_s.f a0 a1 = some r) :
    Calls Try.prog 27 #[.int .i64 a0, .string a1] w fun e w' => e = .returned (.string r) ∧ Below w.heap.size w w' := by
  obtain ⟨k, hk⟩ := wire_Text_s.ev a0 a1 _ h
  exact wire_Text.calls a0 a1 r w hk

end Go.Proofs.Ytohddbiedabmhaa.X
