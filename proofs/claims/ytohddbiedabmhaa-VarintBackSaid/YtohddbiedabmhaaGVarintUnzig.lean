-- by xprint.py, a program of this session, over the kit's print.py
import Derived.Test.YtohddbiedabmhaaT0
import Derived.Test.YtohddbiedabmhaaFVarintUnzig
import Derived.Test.YtohddbiedabmhaaLZig
namespace Go.Proofs.Ytohddbiedabmhaa.X
open Go.RowKit Go.Proofs.YtohddbiedabmhaaW.PrintWords Go.Proofs.YtohddbiedabmhaaW.PrintLast Go.Proofs.YtohddbiedabmhaaW.PrintMore
attribute [local go_sem] max2_int min2_int max_two min_two max_three min_three max_four min_four   -- for this text's walks alone
set_option linter.unusedVariables false
set_option linter.unusedSimpArgs false

def varint_Unzig_s.f (a0 : Int) : Option Int := if 0 ≤ a0 ∧ a0 < 18446744073709551616 then some (unzigZ a0) else none
theorem varint_Unzig_s.ev (a0 : Int) (r) (h : varint_Unzig_s.f a0 = some r) : ∃ k : Nat, varint_Unzig.f a0 = some r := by
  unfold varint_Unzig_s.f at h
  split at h
  · rename_i hr
    exact ⟨0, by rw [← h, varint_Unzig.f, unzig_eval a0 hr.1 hr.2]⟩
  · cases h

set_option maxHeartbeats 1000000 in
theorem varint_Unzig_s.calls (a0 : Int) (r : Int) (w : World) (h : varint_Unzig_s.f a0 = some r) :
    Calls Try.prog 19 #[.int .u64 a0] w fun e w' => e = .returned (.int .i64 r) ∧ Drawn0 w w' := by
  obtain ⟨k, hk⟩ := varint_Unzig_s.ev a0 _ h
  exact varint_Unzig.calls a0 r w hk

end Go.Proofs.Ytohddbiedabmhaa.X
