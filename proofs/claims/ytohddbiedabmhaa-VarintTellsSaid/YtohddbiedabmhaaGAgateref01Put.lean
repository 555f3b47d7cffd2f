-- by xprint.py, a program of this session, over the kit's print.py
import Derived.Test.YtohddbiedabmhaaT0
import Derived.Test.YtohddbiedabmhaaFAgateref01Put
import Derived.Test.YtohddbiedabmhaaLVarint
namespace Go.Proofs.Ytohddbiedabmhaa.X
open Go.RowKit Go.Proofs.YtohddbiedabmhaaW.PrintWords Go.Proofs.YtohddbiedabmhaaW.PrintLast Go.Proofs.YtohddbiedabmhaaW.PrintMore
attribute [local go_sem] max2_int min2_int max_two min_two max_three min_three max_four min_four   -- for this text's walks alone
set_option linter.unusedVariables false
set_option linter.unusedSimpArgs false

def agateref01_Put_s.f (a0 : Int) : Option (List Int) := if 0 ≤ a0 ∧ a0 < 18446744073709551616 then some ((vPut a0.toNat).map Int.ofNat) else none
theorem agateref01_Put_eval : ∀ (k n : Nat), n < 18446744073709551616 → vSize n ≤ k → agateref01_Put.f k (n : Int) = some ((vPut n).map Int.ofNat)
  | 0, n, _, h => by have := vSize_pos n; omega
  | k + 1, n, hn, h => by
    simp only [agateref01_Put.f]
    by_cases h1 : n < 128
    · rw [if_pos (by omega), vPut_lt h1]
      simp; omega
    · rw [if_neg (by omega), Option.bind_some]
      have e1 : IntKind.u64.wrap (Int.tdiv (n : Int) 128) = ((n / 128 : Nat) : Int) := by
        rw [Int.tdiv_eq_ediv_of_nonneg (by omega), u64_wrap]; omega
      have e2 : IntKind.u64.wrap (Int.tmod (n : Int) 128 + 128) % 256 = ((n % 128 + 128 : Nat) : Int) := by
        rw [Int.tmod_eq_emod_of_nonneg (by omega), u64_wrap]; omega
      have h2 := vSize_ge h1
      rw [e1, agateref01_Put_eval k (n / 128) (by omega) (by omega), Option.bind_some, e2, vPut_ge h1, if_pos]
      · simp
      · have := vSize_10 (n / 128) (by omega)
        simp [vPut_length]; omega
theorem agateref01_Put_s.ev (a0 : Int) (r) (h : agateref01_Put_s.f a0 = some r) : ∃ k, agateref01_Put.f k a0 = some r := by
  unfold agateref01_Put_s.f at h
  split at h
  · rename_i hr
    obtain ⟨n, rfl⟩ := Int.eq_ofNat_of_zero_le hr.1
    exact ⟨_, (agateref01_Put_eval _ n (by omega) (Nat.le_refl _)).trans h⟩
  · cases h

set_option maxHeartbeats 1000000 in
theorem agateref01_Put_s.calls (a0 : Int) (r : List Int) (w : World) (h : agateref01_Put_s.f a0 = some r) :
    Calls Try.prog 12 #[.int .u64 a0] w fun e w' => ∃ v0_ : Value, e = .returned (v0_) ∧ Kd.R (Kd.int .u8) 5 w' w.heap.size (fun _ => True) v0_ r ∧ Below w.heap.size w w' := by
  obtain ⟨k, hk⟩ := agateref01_Put_s.ev a0 _ h
  exact agateref01_Put.calls k a0 r w hk

end Go.Proofs.Ytohddbiedabmhaa.X
