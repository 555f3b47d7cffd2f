/- The law VarintTells holds of the given program for every input, without any condition. -/
import Derived.Test.YtohddbiedabmhaaFAgatelaw01VarintTells
import Derived.Test.YtohddbiedabmhaaFVarintPut
import Derived.Test.YtohddbiedabmhaaFVarintRead
import Derived.Test.YtohddbiedabmhaaFVarintSize
import Derived.Test.YtohddbiedabmhaaGAgatelaw01Awake
import Derived.Test.YtohddbiedabmhaaGAgateref01Put
import Derived.Test.YtohddbiedabmhaaGAgateref01Read
import Derived.Test.YtohddbiedabmhaaGAgateref01Zig
import Derived.Test.YtohddbiedabmhaaGVarintUnzig
import Derived.Test.YtohddbiedabmhaaGVarintZig
import Derived.Test.YtohddbiedabmhaaLVarint
import Derived.Test.YtohddbiedabmhaaLWf
import Derived.Test.YtohddbiedabmhaaLZig
namespace Go.Proofs.Ytohddbiedabmhaa.Pure
open Go.RowKit Go.Proofs.Ytohddbiedabmhaa.X Go.Proofs.YtohddbiedabmhaaW.PrintWords Go.Proofs.YtohddbiedabmhaaW.PrintLast Go.Proofs.YtohddbiedabmhaaW.PrintMore
set_option linter.unusedVariables false
set_option linter.unusedSimpArgs false
theorem VarintTells : agatelaw01_VarintTells.Pure := by
  intro v b n hv _ hn
  have hv' := wf_u64 hv
  have hn' := wf_i64 hn
  have e1 : agateref01_Put_s.f v = some ((vPut v.toNat).map Int.ofNat) := if_pos hv'
  have e2 : varint_Put.f v = some (vStr v.toNat) := if_pos hv'
  have e3 : varint_Size.f v = some (vSize v.toNat : Int) := if_pos hv'
  have e4 : varint_Zig_s.f n = some (zigZ n) := if_pos hn'
  have e5 : agateref01_Zig_s.f n = some (zigZ n) := if_pos hn'
  have e6 : varint_Unzig_s.f (zigZ n) = some n := by
    unfold varint_Unzig_s.f; rw [if_pos (zig_range n hn'.1 hn'.2), unzig_zig]
  unfold agatelaw01_VarintTells.f
  split
  · rfl
  · simp only [e1, e2, e3, e4, e5, e6, Option.bind_some, agatelaw01_Awake_s.f, varint_Read.f, agateref01_Read_s.f, vStr, if_true]
    have hs : ((strOfNums ((vPut v.toNat).map Int.ofNat)).size : Int) = (vSize v.toNat : Int) := by
      rw [← vPut_length]; simp [strOfNums, ByteArray.size]
    rw [hs]
    simp

end Go.Proofs.Ytohddbiedabmhaa.Pure
