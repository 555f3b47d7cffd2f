-- by xprint.py, a program of this session, over the kit's print.py
import Derived.Test.YtohddbiedabmhaaT0
import Derived.Test.YtohddbiedabmhaaLVarint
namespace Go.Proofs.Ytohddbiedabmhaa.X
open Go.RowKit Go.Proofs.YtohddbiedabmhaaW.PrintWords Go.Proofs.YtohddbiedabmhaaW.PrintLast Go.Proofs.YtohddbiedabmhaaW.PrintMore
attribute [local go_sem] max2_int min2_int max_two min_two max_three min_three max_four min_four   -- for this text's walks alone
set_option linter.unusedVariables false
set_option linter.unusedSimpArgs false

/-! zigzag: plain Lean -/
def zigZ (n : Int) : Int := if 0 ≤ n then 2 * n else -2 * n - 1
def unzigZ (v : Int) : Int := if v % 2 = 0 then v / 2 else -(v / 2) - 1
theorem ofInt_toNat (x : Int) : ((BitVec.ofInt 64 x).toNat : Int) = x % 18446744073709551616 := by
  rw [BitVec.toNat_ofInt]; omega
theorem i64_wrap_mod (x : Int) (h0 : -9223372036854775808 ≤ x) (h1 : x < 9223372036854775808) : IntKind.i64.wrap (x % 18446744073709551616) = x := by
  rw [i64_w]; unfold wrap64; omega
theorem xor64 (x y : Int) : Go.bits .xor .u64 x y = IntKind.u64.wrap ((BitVec.ofInt 64 x ^^^ BitVec.ofInt 64 y).toNat : Int) := rfl
theorem xori64 (x y : Int) : Go.bits .xor .i64 x y = IntKind.i64.wrap ((BitVec.ofInt 64 x ^^^ BitVec.ofInt 64 y).toNat : Int) := rfl
theorem xor_zero_u64 (x : Int) (h0 : 0 ≤ x) (h1 : x < 18446744073709551616) : Go.bits .xor .u64 x 0 = x := by
  rw [xor64, show BitVec.ofInt 64 0 = 0#64 from rfl, BitVec.xor_zero, ofInt_toNat, u64_wrap]; omega
theorem xor_zero_i64 (x : Int) (h0 : -9223372036854775808 ≤ x) (h1 : x < 9223372036854775808) : Go.bits .xor .i64 x 0 = x := by
  rw [xori64, show BitVec.ofInt 64 0 = 0#64 from rfl, BitVec.xor_zero, ofInt_toNat, i64_wrap_mod x h0 h1]
theorem toNat_xor_ones (b : BitVec 64) : ((b ^^^ BitVec.allOnes 64).toNat : Int) = 18446744073709551615 - b.toNat := by
  rw [BitVec.xor_allOnes, BitVec.toNat_not]; have := b.isLt; omega
theorem xor_ones_u64 (x : Int) (h0 : 0 ≤ x) (h1 : x < 18446744073709551616) : Go.bits .xor .u64 x 18446744073709551615 = 18446744073709551615 - x := by
  rw [xor64, show BitVec.ofInt 64 18446744073709551615 = BitVec.allOnes 64 from by decide, toNat_xor_ones, ofInt_toNat, u64_wrap]; omega
theorem xor_ones_i64 (x : Int) (h0 : -9223372036854775808 ≤ x) (h1 : x < 9223372036854775808) : Go.bits .xor .i64 x (-1) = -x - 1 := by
  rw [xori64, show BitVec.ofInt 64 (-1) = BitVec.allOnes 64 from by decide, toNat_xor_ones, ofInt_toNat]
  rw [show (18446744073709551615 - x % 18446744073709551616) = (-x - 1) % 18446744073709551616 from by omega, i64_wrap_mod _ (by omega) (by omega)]
theorem and_one_u64 (x : Int) (h0 : 0 ≤ x) (h1 : x < 18446744073709551616) : Go.bits .and .u64 x 1 = x % 2 := by
  obtain ⟨n, rfl⟩ := Int.eq_ofNat_of_zero_le h0
  have := u64_and_nat n 1 (by omega) (by decide)
  rw [show ((1 : Nat) : Int) = 1 from rfl] at this
  rw [this, Nat.and_one_is_mod]; omega
theorem zig_eval (a : Int) (h0 : -9223372036854775808 ≤ a) (h1 : a < 9223372036854775808) :
    Go.bits .xor .u64 (IntKind.u64.wrap (wrap64 (a * 2))) (IntKind.u64.wrap (a / 9223372036854775808)) = zigZ a := by
  have e : IntKind.u64.wrap (wrap64 (a * 2)) = (a * 2) % 18446744073709551616 := by rw [u64_wrap]; unfold wrap64; omega
  rw [e, zigZ]
  by_cases h : 0 ≤ a
  · rw [show a / 9223372036854775808 = 0 from by omega, show IntKind.u64.wrap 0 = 0 from rfl, xor_zero_u64 _ (by omega) (by omega), if_pos h]; omega
  · rw [show a / 9223372036854775808 = -1 from by omega, show IntKind.u64.wrap (-1) = 18446744073709551615 from rfl, xor_ones_u64 _ (by omega) (by omega), if_neg h]; omega
theorem unzig_eval (v : Int) (h0 : 0 ≤ v) (h1 : v < 18446744073709551616) :
    Go.bits .xor .i64 (wrap64 (v / 2)) (wrap64 (-(wrap64 (Go.bits .and .u64 v 1)))) = unzigZ v := by
  rw [and_one_u64 v h0 h1, unzigZ]
  have e : wrap64 (v / 2) = v / 2 := by unfold wrap64; omega
  rw [e]
  by_cases h : v % 2 = 0
  · rw [h, show wrap64 (-wrap64 0) = 0 from by unfold wrap64; decide, xor_zero_i64 _ (by omega) (by omega), if_pos rfl]
  · rw [show v % 2 = 1 from by omega, show wrap64 (-wrap64 1) = -1 from by unfold wrap64; decide, xor_ones_i64 _ (by omega) (by omega), if_neg (by decide)]
theorem refzig_eval (a : Int) (h0 : -9223372036854775808 ≤ a) (h1 : a < 9223372036854775808) :
    (if a ≥ 0 then some (IntKind.u64.wrap (2 * (IntKind.u64.wrap a))) else some (IntKind.u64.wrap ((IntKind.u64.wrap (2 * (IntKind.u64.wrap (wrap64 (-(wrap64 (a + 1))))))) + 1))) = some (zigZ a) := by
  unfold zigZ
  by_cases h : 0 ≤ a
  · rw [if_pos h, if_pos h]; congr 1; simp only [u64_wrap]; omega
  · rw [if_neg h, if_neg h]; congr 1; simp only [u64_wrap, wrap64]; omega
theorem unzig_zig (a : Int) : unzigZ (zigZ a) = a := by unfold unzigZ zigZ; split <;> split <;> omega
theorem zig_unzig (v : Int) (h : 0 ≤ v) : zigZ (unzigZ v) = v := by unfold unzigZ zigZ; split <;> split <;> omega
theorem zig_range (a : Int) (h0 : -9223372036854775808 ≤ a) (h1 : a < 9223372036854775808) : 0 ≤ zigZ a ∧ zigZ a < 18446744073709551616 := by
  unfold zigZ; split <;> omega
theorem unzig_range (v : Int) (h0 : 0 ≤ v) (h1 : v < 18446744073709551616) : -9223372036854775808 ≤ unzigZ v ∧ unzigZ v < 9223372036854775808 := by
  unfold unzigZ; split <;> omega

end Go.Proofs.Ytohddbiedabmhaa.X
