-- by xprint.py, a program of this session, over the kit's print.py
import Derived.Test.YtohddbiedabmhaaT0
import Derived.Test.YtohddbiedabmhaaFAgatelaw01Awake
import Derived.Test.YtohddbiedabmhaaFVarintPut
import Derived.Test.YtohddbiedabmhaaFVarintRead
import Derived.Test.YtohddbiedabmhaaLVarint
namespace Go.Proofs.Ytohddbiedabmhaa.X
open Go.RowKit Go.Proofs.YtohddbiedabmhaaW.PrintWords Go.Proofs.YtohddbiedabmhaaW.PrintLast Go.Proofs.YtohddbiedabmhaaW.PrintMore
attribute [local go_sem] max2_int min2_int max_two min_two max_three min_three max_four min_four   -- for this text's walks alone
set_option linter.unusedVariables false
set_option linter.unusedSimpArgs false

def agatelaw01_Awake_s.f : Option Bool := some true
theorem agatelaw01_Awake_s.ev (r) (h : agatelaw01_Awake_s.f = some r) : ∃ k : Nat, agatelaw01_Awake.f = some r := by
  refine ⟨0, ?_⟩
  rw [← h]
  have h1 : varint_Read.f ⟨#[172, 2, 120]⟩ = some (300, 2, 0) := by
    have : vRead ⟨#[172, 2, 120]⟩ = (300, 2, 0) := by decide
    unfold varint_Read.f; rw [this]; rfl
  have h2 : varint_Put.f 300 = some ⟨#[172, 2]⟩ := by
    unfold varint_Put.f
    rw [if_pos (by decide)]
    have : vStr (300 : Int).toNat = ⟨#[172, 2]⟩ := by
      show strOfNums ((vPut 300).map Int.ofNat) = _
      rw [vPut_ge (by decide), vPut_lt (by decide)]; rfl
    rw [this]
  unfold agatelaw01_Awake.f agatelaw01_Awake_s.f
  rw [h1, h2]
  simp only [Option.bind_some]
  rw [if_pos (by rw [ByteArray.toList_eq])]
  rfl

set_option maxHeartbeats 1000000 in
theorem agatelaw01_Awake_s.calls  (r : Bool) (w : World) (h : agatelaw01_Awake_s.f  = some r) :
    Calls Try.prog 11 #[] w fun e w' => e = .returned (.bool r) ∧ Below w.heap.size w w' := by
  obtain ⟨k, hk⟩ := agatelaw01_Awake_s.ev  _ h
  exact agatelaw01_Awake.calls r w hk

end Go.Proofs.Ytohddbiedabmhaa.X
