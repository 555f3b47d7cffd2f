/- The law VarintBack holds of the given program for every input, without any condition. -/
import Derived.Test.YtohddbiedabmhaaFAgatelaw01VarintBack
import Derived.Test.YtohddbiedabmhaaFVarintPut
import Derived.Test.YtohddbiedabmhaaFVarintRead
import Derived.Test.YtohddbiedabmhaaFVarintSize
import Derived.Test.YtohddbiedabmhaaGAgatelaw01Awake
import Derived.Test.YtohddbiedabmhaaGVarintUnzig
import Derived.Test.YtohddbiedabmhaaGVarintZig
import Derived.Test.YtohddbiedabmhaaLVarint
import Derived.Test.YtohddbiedabmhaaLVarintMore
import Derived.Test.YtohddbiedabmhaaLWf
import Derived.Test.YtohddbiedabmhaaLZig
namespace Go.Proofs.Ytohddbiedabmhaa.Pure
open Go.RowKit Go.Proofs.Ytohddbiedabmhaa.X Go.Proofs.YtohddbiedabmhaaW.PrintWords Go.Proofs.YtohddbiedabmhaaW.PrintLast Go.Proofs.YtohddbiedabmhaaW.PrintMore
set_option linter.unusedVariables false
set_option linter.unusedSimpArgs false
theorem VarintBack : agatelaw01_VarintBack.Pure := by
  intro v b1 b2 hv hb1 _
  have hv' := wf_u64 hv
  have h1 : ∀ k, agatelaw01_VarintBack.j1 (k + 1) b2 false = some true := by
    intro k
    simp only [agatelaw01_VarintBack.j1]
    obtain ⟨⟨y, n, e⟩, hr⟩ : ∃ x, vRead b2 = x := ⟨_, rfl⟩
    rw [if_neg (by decide)]
    simp only [varint_Read.f, hr, Option.bind_some, agatelaw01_Awake_s.f, if_true]
    by_cases he : e = 0
    · subst he
      obtain ⟨g1, g2, g3, g4, g5⟩ := vRead_ok b2 y n hr
      have e3 : varint_Size.f (y : Int) = some (vSize y : Int) := by
        unfold varint_Size.f; rw [if_pos (by omega)]; rfl
      have e2 : varint_Put.f (y : Int) = some (vStr y) := by
        unfold varint_Put.f; rw [if_pos (by omega)]; rfl
      rw [if_pos (by rfl), if_pos (by omega), e3]
      simp only [Option.bind_some]
      rw [if_pos (by omega)]
      by_cases hk : vSize y = n
      · rw [if_neg (by omega), if_pos (by omega), e2]
        simp only [Option.bind_some, Int.toNat_natCast]
        rw [g5 hk]; simp
      · rw [if_pos (by omega)]
    · rw [if_neg (by omega)]
  refine ⟨2, ?_⟩
  unfold agatelaw01_VarintBack.f
  have key : ∀ x, agatelaw01_VarintBack.j0 2 v b1 b2 x = some true := by
    intro x
    simp only [agatelaw01_VarintBack.j0]
    cases x with
    | true => rfl
    | false =>
      rw [if_neg (by decide)]
      have e2 : varint_Put.f v = some (vStr v.toNat) := if_pos hv'
      have hs := vStr_size v.toNat
      have hs10 := vSize_10 v.toNat (by omega)
      have e6 : varint_Unzig_s.f v = some (unzigZ v) := if_pos hv'
      have e4 : varint_Zig_s.f (unzigZ v) = some v := by
        unfold varint_Zig_s.f; rw [if_pos (unzig_range v hv'.1 hv'.2), zig_unzig v hv'.1]
      rw [e2]
      simp only [Option.bind_some, varint_Read.f]
      rw [if_pos (by omega)]
      rw [vRead_put _ (by omega)]
      simp only [Option.bind_some]
      rw [if_pos (by omega), if_pos (by omega), if_pos (by rfl), e6]
      simp only [Option.bind_some, e4]
      simpa using h1 0
  split
  · exact key _
  · exact key _

end Go.Proofs.Ytohddbiedabmhaa.Pure
