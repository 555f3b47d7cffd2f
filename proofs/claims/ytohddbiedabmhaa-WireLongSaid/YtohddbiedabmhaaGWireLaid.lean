-- by xprint.py, a program of this session, over the kit's print.py
import Derived.Test.YtohddbiedabmhaaT0
import Derived.Test.YtohddbiedabmhaaFWireLaid
import Derived.Test.YtohddbiedabmhaaLWire
namespace Go.Proofs.Ytohddbiedabmhaa.X
open Go.RowKit Go.Proofs.YtohddbiedabmhaaW.PrintWords Go.Proofs.YtohddbiedabmhaaW.PrintLast Go.Proofs.YtohddbiedabmhaaW.PrintMore
attribute [local go_sem] max2_int min2_int max_two min_two max_three min_three max_four min_four   -- for this text's walks alone
set_option linter.unusedVariables false
set_option linter.unusedSimpArgs false

def wire_laid_s.f (a0 a1 : Int) : Option ByteArray := if 0 ≤ a0 ∧ a0 < 18446744073709551616 ∧ 0 ≤ a1 ∧ a1 ≤ 8 then some (laidStr a0.toNat a1.toNat) else none
theorem wire_laid_eval (v n : Nat) (hv : v < 18446744073709551616) (hn : n ≤ 8) (d : Nat) : ∀ (k i : Nat), n - i = d → i ≤ n → d < k →
    wire_laid.l0 k (v : Int) ((laidS v i).map Int.ofNat) (n : Int) (i : Int) = some (laidStr v n) := by
  induction d with
  | zero =>
    intro k i hd hi hk
    obtain ⟨k, rfl⟩ : ∃ m, k = m + 1 := ⟨k - 1, by omega⟩
    obtain rfl : i = n := by omega
    simp only [wire_laid.l0]
    rw [if_neg (by omega)]; rfl
  | succ d ih =>
    intro k i hd hi hk
    obtain ⟨k, rfl⟩ : ∃ m, k = m + 1 := ⟨k - 1, by omega⟩
    simp only [wire_laid.l0]
    have e0 : wrap64 (8 * (i : Int)) = ((8 * i : Nat) : Int) := by rw [wrap64_id (by omega) (by omega)]; omega
    have e1 : shr .u64 (v : Int) ((8 * i : Nat) : Int) % 256 = Int.ofNat (v / 256 ^ i % 256) := by
      show (v : Int) / 2 ^ min ((8 * i : Nat) : Int).toNat 64 % 256 = _
      have hp : (256 : Nat) ^ i = 2 ^ (8 * i) := by rw [Nat.pow_mul]
      rw [Int.toNat_natCast, Nat.min_eq_left (by omega), hp]
      simp
    rw [if_pos (by omega), if_pos (by rw [e0]; omega), if_pos (by simp [laidS_length]; omega), e0, e1, wrap64_id (by omega) (by omega)]
    have := ih k (i + 1) (by omega) (by omega) (by omega)
    rw [laidS_succ, List.map_append] at this
    exact this
theorem wire_laid_s.ev (a0 a1 : Int) (r) (h : wire_laid_s.f a0 a1 = some r) : ∃ k, wire_laid.f k a0 a1 = some r := by
  unfold wire_laid_s.f at h
  split at h
  · rename_i hr
    obtain ⟨v, rfl⟩ := Int.eq_ofNat_of_zero_le hr.1
    obtain ⟨n, rfl⟩ := Int.eq_ofNat_of_zero_le hr.2.2.1
    exact ⟨n + 1, (wire_laid_eval v n (by omega) (by omega) n (n + 1) 0 (by omega) (by omega) (by omega)).trans h⟩
  · cases h

set_option maxHeartbeats 1000000 in
theorem wire_laid_s.calls (a0 : Int) (a1 : Int) (r : ByteArray) (w : World) (h : wire_laid_s.f a0 a1 = some r) :
    Calls Try.prog 46 #[.int .u64 a0, .int .i64 a1] w fun e w' => e = .returned (.string r) ∧ Below w.heap.size w w' := by
  obtain ⟨k, hk⟩ := wire_laid_s.ev a0 a1 _ h
  exact wire_laid.calls k a0 a1 r w hk

end Go.Proofs.Ytohddbiedabmhaa.X
