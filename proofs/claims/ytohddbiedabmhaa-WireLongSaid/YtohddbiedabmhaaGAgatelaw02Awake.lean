-- by xprint.py, a program of this session, over the kit's print.py
import Derived.Test.YtohddbiedabmhaaT0
import Derived.Test.YtohddbiedabmhaaFAgatelaw02Awake
import Derived.Test.YtohddbiedabmhaaGAgatelaw01Awake
import Derived.Test.YtohddbiedabmhaaGWireFields
import Derived.Test.YtohddbiedabmhaaLVarint
import Derived.Test.YtohddbiedabmhaaLWire
namespace Go.Proofs.Ytohddbiedabmhaa.X
open Go.RowKit Go.Proofs.YtohddbiedabmhaaW.PrintWords Go.Proofs.YtohddbiedabmhaaW.PrintLast Go.Proofs.YtohddbiedabmhaaW.PrintMore
attribute [local go_sem] max2_int min2_int max_two min_two max_three min_three max_four min_four   -- for this text's walks alone
set_option linter.unusedVariables false
set_option linter.unusedSimpArgs false

def agatelaw02_Awake_s.f : Option Bool := some true
theorem awake02_fields : fieldsS ⟨#[8, 150, 1]⟩ = ([(1, 0, 150, ⟨#[]⟩)], 0) := by
  have h1 : oneS ⟨#[8, 150, 1]⟩ = ((1, 0, 150, ⟨#[]⟩), 3, 0) := by
    have e1 : vRead ⟨#[8, 150, 1]⟩ = (8, 1, 0) := by decide
    have e2 : vRead (ByteArray.extract ⟨#[8, 150, 1]⟩ 1 (ByteArray.size ⟨#[8, 150, 1]⟩)) = (150, 2, 0) := by decide
    unfold oneS
    simp only [e1]
    rw [if_neg (by simp), if_neg (by simp), if_pos (by simp)]
    simp only [e2]
    rfl
  unfold fieldsS
  rw [if_neg (by decide), show ByteArray.size ⟨#[8, 150, 1]⟩ = 3 from rfl, fieldsF, if_neg (by decide), h1]
  have h2 : (ByteArray.extract ⟨#[8, 150, 1]⟩ 3 (ByteArray.size ⟨#[8, 150, 1]⟩)).size = 0 := by decide
  simp [fieldsF, h2]
theorem agatelaw02_Awake_s.ev (r) (h : agatelaw02_Awake_s.f = some r) : ∃ k : Nat, agatelaw02_Awake.f = some r := by
  refine ⟨0, ?_⟩
  rw [← h]
  unfold agatelaw02_Awake.f agatelaw02_Awake_s.f
  have e : wire_Fields_s.f ⟨#[8, 150, 1]⟩ = some ([toP (1, 0, 150, ⟨#[]⟩)], 0) := by
    unfold wire_Fields_s.f
    rw [if_pos (by decide), awake02_fields]; rfl
  rw [e]
  simp only [Option.bind_some, agatelaw01_Awake_s.f, if_true]
  rw [if_pos (by rfl), if_pos (by decide)]
  have : (toP (1, 0, 150, ⟨#[]⟩)).f3.toList = ([] : List UInt8) := toList_nil.2 rfl
  simp only [rd_T47, Int.toNat_zero, List.getD_cons_zero]
  rw [this]
  rfl

set_option maxHeartbeats 1000000 in
theorem agatelaw02_Awake_s.calls  (r : Bool) (w : World) (h : agatelaw02_Awake_s.f  = some r) :
    Calls Try.prog 20 #[] w fun e w' => e = .returned (.bool r) ∧ Below w.heap.size w w' := by
  obtain ⟨k, hk⟩ := agatelaw02_Awake_s.ev  _ h
  exact agatelaw02_Awake.calls r w hk

end Go.Proofs.Ytohddbiedabmhaa.X
