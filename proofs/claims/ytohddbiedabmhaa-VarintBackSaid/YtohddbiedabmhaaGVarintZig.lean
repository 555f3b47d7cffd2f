-- by xprint.py, a program of this session, over the kit's print.py
import Derived.Test.YtohddbiedabmhaaT0
import Derived.Test.YtohddbiedabmhaaFVarintZig
import Derived.Test.YtohddbiedabmhaaLZig
namespace Go.Proofs.Ytohddbiedabmhaa.X
open Go.RowKit Go.Proofs.YtohddbiedabmhaaW.PrintWords Go.Proofs.YtohddbiedabmhaaW.PrintLast Go.Proofs.YtohddbiedabmhaaW.PrintMore
attribute [local go_sem] max2_int min2_int max_two min_two max_three min_three max_four min_four   -- for this text's walks alone
set_option linter.unusedVariables false
set_option linter.unusedSimpArgs false

def varint_Zig_s.f (a0 : Int) : Option Int := if -9223372036854775808 ≤ a0 ∧ a0 < 9223372036854775808 then some (zigZ a0) else none
theorem varint_Zig_s.ev (a0 : Int) (r) (h : varint_Zig_s.f a0 = some r) : ∃ k : Nat, varint_Zig.f a0 = some r := by
  unfold varint_Zig_s.f at h
  split at h
  · rename_i hr
    exact ⟨0, by rw [← h, varint_Zig.f, zig_eval a0 hr.1 hr.2]⟩
  · cases h

set_option maxHeartbeats 1000000 in
theorem varint_Zig_s.calls (a0 : Int) (r : Int) (w : World) (h : varint_Zig_s.f a0 = some r) :
    Calls Try.prog 17 #[.int .i64 a0] w fun e w' => e = .returned (.int .u64 r) ∧ Drawn0 w w' := by
  obtain ⟨k, hk⟩ := varint_Zig_s.ev a0 _ h
  exact varint_Zig.calls a0 r w hk

end Go.Proofs.Ytohddbiedabmhaa.X
