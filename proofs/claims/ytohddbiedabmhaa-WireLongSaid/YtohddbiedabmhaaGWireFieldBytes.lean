-- by xprint.py, a program of this session, over the kit's print.py
import Derived.Test.YtohddbiedabmhaaT0
import Derived.Test.YtohddbiedabmhaaFVarintPut
import Derived.Test.YtohddbiedabmhaaFWireFieldBytes
import Derived.Test.YtohddbiedabmhaaFWireMay
import Derived.Test.YtohddbiedabmhaaGWireLaid
import Derived.Test.YtohddbiedabmhaaLVarint
import Derived.Test.YtohddbiedabmhaaLVarintMore
import Derived.Test.YtohddbiedabmhaaLWire
namespace Go.Proofs.Ytohddbiedabmhaa.X
open Go.RowKit Go.Proofs.YtohddbiedabmhaaW.PrintWords Go.Proofs.YtohddbiedabmhaaW.PrintLast Go.Proofs.YtohddbiedabmhaaW.PrintMore
attribute [local go_sem] max2_int min2_int max_two min_two max_three min_three max_four min_four   -- for this text's walks alone
set_option linter.unusedVariables false
set_option linter.unusedSimpArgs false

def wire_Field_Bytes_s.f (a0 a1 a2 : Int) (a3 : ByteArray) : Option ByteArray :=
  if -9223372036854775808 ≤ a0 ∧ a0 < 9223372036854775808 ∧ -9223372036854775808 ≤ a1 ∧ a1 < 9223372036854775808 ∧ 0 ≤ a2 ∧ a2 < 18446744073709551616 ∧ a3.size ≤ 140737488351232 then some (bytesS a0 a1 a2 a3) else none
theorem tag_or (num ty : Int) (h0 : 1 ≤ num) (h1 : num ≤ 536870911) (h2 : 0 ≤ ty) (h3 : ty < 8) :
    Go.bits .or .u64 (IntKind.u64.wrap (IntKind.u64.wrap num * 8)) (IntKind.u64.wrap ty) = 8 * num + ty := by
  obtain ⟨n, rfl⟩ := Int.eq_ofNat_of_zero_le (show 0 ≤ num by omega)
  obtain ⟨t, rfl⟩ := Int.eq_ofNat_of_zero_le h2
  rw [u64_id (x := (n : Int)) (by omega) (by omega), u64_id (x := (t : Int)) (by omega) (by omega), u64_id (by omega) (by omega)]
  have e : ((n : Int) * 8) = ((2 ^ 3 * n : Nat) : Int) := by omega
  rw [e, u64_or_nat _ _ (by omega) (by omega), ← Nat.two_pow_add_eq_or_of_lt (by omega)]
  omega
theorem wire_may_eval (a b : Int) (h0 : 0 ≤ a) (h1 : 0 ≤ b) : wire_may.f a b = some (decide (1 ≤ a ∧ a ≤ 536870911 ∧ (b = 0 ∨ b = 1 ∨ b = 2 ∨ b = 5))) := by
  unfold wire_may.f
  by_cases g1 : a ≥ 1
  · by_cases g2 : a ≤ 536870911
    · rw [if_pos g1, if_pos g2]
      by_cases g3 : b = 0
      · simp [g1, g2, g3]
      · by_cases g4 : b = 1
        · simp [g1, g2, g4]
        · by_cases g5 : b = 2
          · simp [g1, g2, g5]
          · simp [g1, g2, g3, g4, g5]
            rw [Bool.eq_iff_iff]; simp
    · rw [if_pos g1, if_neg g2]; simp [g2]
  · rw [if_neg g1]; simp; omega
theorem wire_Field_Bytes_s.ev (a0 a1 a2 : Int) (a3 : ByteArray) (r) (h : wire_Field_Bytes_s.f a0 a1 a2 a3 = some r) : ∃ k, wire_Field_Bytes.f k a0 a1 a2 a3 = some r := by
  unfold wire_Field_Bytes_s.f at h
  split at h
  · rename_i hr
    obtain ⟨p0, p1, p2, p3, p4, p5, p6⟩ := hr
    rw [← h]
    refine ⟨1, ?_⟩
    unfold wire_Field_Bytes.f bytesS
    by_cases hm : 1 ≤ a0 ∧ a0 ≤ 536870911 ∧ (a1 = 0 ∨ a1 = 1 ∨ a1 = 2 ∨ a1 = 5)
    · have hm1 := hm
      obtain ⟨m0, m1, m2⟩ := hm1
      rw [if_neg (by omega), if_neg (by omega), u64_id (x := a0) (by omega) (by omega), u64_id (x := a1) (by omega) (by omega), wire_may_eval _ _ (by omega) (by omega), decide_eq_true hm, Option.bind_some, if_pos hm]
      simp only [wire_Field_Bytes.j0]
      have ep : ∀ x : Int, 0 ≤ x → x < 18446744073709551616 → varint_Put.f x = some (vStr x.toNat) := fun x g0 g1 => if_pos ⟨g0, g1⟩
      have hs : ∀ x : Int, 0 ≤ x → x < 18446744073709551616 → (vStr x.toNat).size ≤ 10 := fun x g0 g1 => by rw [vStr_size]; exact vSize_10 _ (by omega)
      have hs1 := hs (8 * a0 + a1) (by omega) (by omega)
      rw [if_neg (by decide), tag_or a0 a1 m0 m1 (by omega) (by omega), ep _ (by omega) (by omega), Option.bind_some]
      rcases m2 with rfl | rfl | rfl | rfl
      · have hs2 := hs a2 p4 p5
        rw [if_pos rfl, if_pos rfl, ep _ p4 p5, Option.bind_some, if_pos (by omega)]
      · rw [if_neg (by decide), if_neg (by decide), if_pos rfl, if_neg (by decide), if_neg (by decide), if_pos rfl]
        have el : wire_laid_s.f a2 8 = some (laidStr a2.toNat 8) := if_pos ⟨p4, p5, by decide, by decide⟩
        rw [el, Option.bind_some, if_pos (by rw [laidStr_size]; omega)]
      · have hs2 := hs (a3.size : Int) (by omega) (by omega)
        rw [Int.toNat_natCast] at hs2
        rw [if_neg (by decide), if_pos rfl, if_neg (by decide), if_pos rfl, u64_id (by omega) (by omega), ep _ (by omega) (by omega), Option.bind_some, Int.toNat_natCast, if_pos (by omega), if_pos (by rw [ByteArray.size_append]; omega)]
      · rw [if_neg (show ¬ (5 : Int) = 0 by decide), if_neg (show ¬ (5 : Int) = 2 by decide), if_neg (show ¬ (5 : Int) = 1 by decide), if_neg (show ¬ (5 : Int) = 0 by decide), if_neg (show ¬ (5 : Int) = 2 by decide), if_neg (show ¬ (5 : Int) = 1 by decide)]
        by_cases hg : a2 > 4294967295
        · rw [if_pos hg, if_pos hg]
        · rw [if_neg hg, if_neg hg]
          have el : wire_laid_s.f a2 4 = some (laidStr a2.toNat 4) := if_pos ⟨p4, p5, by decide, by decide⟩
          rw [el, Option.bind_some, if_pos (by rw [laidStr_size]; omega)]
    · rw [if_neg hm]
      by_cases n0 : a0 < 0
      · rw [if_pos n0]; rfl
      · by_cases n1 : a1 < 0
        · rw [if_neg n0, if_pos n1]; rfl
        · rw [if_neg n0, if_neg n1, u64_id (x := a0) (by omega) (by omega), u64_id (x := a1) (by omega) (by omega), wire_may_eval _ _ (by omega) (by omega), decide_eq_false hm]; rfl
  · cases h

set_option maxHeartbeats 1000000 in
theorem wire_Field_Bytes_s.calls (a0_0 : Int) (a0_1 : Int) (a0_2 : Int) (a0_3 : ByteArray) (r : ByteArray) (w : World) (h : wire_Field_Bytes_s.f a0_0 a0_1 a0_2 a0_3 = some r) :
    Calls Try.prog 29 #[.agg #[.int .i64 a0_0, .int .i64 a0_1, .int .u64 a0_2, .string a0_3]] w fun e w' => e = .returned (.string r) ∧ Below w.heap.size w w' := by
  obtain ⟨k, hk⟩ := wire_Field_Bytes_s.ev a0_0 a0_1 a0_2 a0_3 _ h
  exact wire_Field_Bytes.calls k a0_0 a0_1 a0_2 a0_3 r w hk

end Go.Proofs.Ytohddbiedabmhaa.X
