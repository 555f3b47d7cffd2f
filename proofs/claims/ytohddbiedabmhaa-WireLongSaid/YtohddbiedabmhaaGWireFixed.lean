-- by xprint.py, a program of this session, over the kit's print.py
import Derived.Test.YtohddbiedabmhaaT0
import Derived.Test.YtohddbiedabmhaaFWireFixed
import Derived.Test.YtohddbiedabmhaaLVarint
import Derived.Test.YtohddbiedabmhaaLWire
namespace Go.Proofs.Ytohddbiedabmhaa.X
open Go.RowKit Go.Proofs.YtohddbiedabmhaaW.PrintWords Go.Proofs.YtohddbiedabmhaaW.PrintLast Go.Proofs.YtohddbiedabmhaaW.PrintMore
attribute [local go_sem] max2_int min2_int max_two min_two max_three min_three max_four min_four   -- for this text's walks alone
set_option linter.unusedVariables false
set_option linter.unusedSimpArgs false

def wire_fixed_s.f (a0 : ByteArray) : Option Int := if a0.size ≤ 8 then some ((lowS (ns a0) : Nat) : Int) else none
theorem wire_fixed_step (v c i : Nat) (hv : v < 256 ^ i) (hi : i ≤ 7) (hc : c < 256) :
    Go.bits .or .u64 (v : Int) (shl .u64 (IntKind.u64.wrap (c : Int)) (wrap64 (8 * (i : Int)))) = ((v + c * 256 ^ i : Nat) : Int) := by
  have e0 : wrap64 (8 * (i : Int)) = ((8 * i : Nat) : Int) := by rw [wrap64_id (by omega) (by omega)]; omega
  have hp : (256 : Nat) ^ i = 2 ^ (8 * i) := by rw [Nat.pow_mul]
  have h1 : 256 ^ i ≤ 256 ^ 7 := Nat.pow_le_pow_right (by decide) hi
  have h2 : c * 256 ^ i ≤ 255 * 256 ^ i := Nat.mul_le_mul_right _ (by omega)
  have e1 : shl .u64 (IntKind.u64.wrap (c : Int)) (wrap64 (8 * (i : Int))) = ((c * 2 ^ (8 * i) : Nat) : Int) := by
    rw [e0, u64_id (by omega) (by omega)]
    show IntKind.u64.wrap ((c : Int) * 2 ^ min ((8 * i : Nat) : Int).toNat 64) = _
    rw [Int.toNat_natCast, Nat.min_eq_left (by omega), u64_id]
    · simp
    · exact Int.mul_nonneg (by omega) (Int.pow_nonneg (by decide))
    · have : ((c : Int) * 2 ^ (8 * i)) = ((c * 2 ^ (8 * i) : Nat) : Int) := by simp
      rw [this, ← hp]; omega
  rw [e1, u64_or_nat _ _ (by omega) (by rw [← hp]; omega), Nat.or_comm, Nat.mul_comm, ← Nat.two_pow_add_eq_or_of_lt (by rw [← hp]; exact hv), ← hp, Nat.mul_comm, Nat.add_comm]
theorem wire_fixed_eval (s : ByteArray) (hs : s.size ≤ 8) (d : Nat) : ∀ (k i : Nat), s.size - i = d → i ≤ s.size → d < k →
    wire_fixed.l0 k s (lowS ((ns s).take i) : Nat) (s.size : Int) (i : Int) = some ((lowS (ns s) : Nat) : Int) := by
  induction d with
  | zero =>
    intro k i hd hi hk
    obtain ⟨k, rfl⟩ : ∃ m, k = m + 1 := ⟨k - 1, by omega⟩
    simp only [wire_fixed.l0]
    rw [if_neg (by omega), List.take_of_length_le (by rw [ns_length]; omega)]
  | succ d ih =>
    intro k i hd hi hk
    obtain ⟨k, rfl⟩ : ∃ m, k = m + 1 := ⟨k - 1, by omega⟩
    have hlt : i < s.size := by omega
    have hb : bt s (i : Int) = ((s[i]'hlt).toNat : Int) := bt_ns s i hlt
    have hl : ((ns s).take i).length = i := by rw [List.length_take, ns_length]; omega
    have hv : lowS ((ns s).take i) < 256 ^ i := by
      have := lowS_lt ((ns s).take i) (fun c hc => ns_lt s c (List.mem_of_mem_take hc))
      rwa [hl] at this
    have ht : (ns s).take (i + 1) = (ns s).take i ++ [(s[i]'hlt).toNat] := by
      rw [List.take_succ_eq_append_getElem (by rw [ns_length]; exact hlt), ns_get s i hlt]
    simp only [wire_fixed.l0]
    rw [if_pos (by omega), if_pos (by omega), if_pos (by omega), if_pos (by rw [wrap64_id (by omega) (by omega)]; omega), hb, wire_fixed_step _ _ i hv (by omega) (s[i]'hlt).toNat_lt]
    have := ih k (i + 1) (by omega) (by omega) (by omega)
    rw [ht, lowS_snoc, hl] at this
    rw [wrap64_id (by omega) (by omega)]
    exact this
theorem wire_fixed_s.ev (a0 : ByteArray) (r) (h : wire_fixed_s.f a0 = some r) : ∃ k, wire_fixed.f k a0 = some r := by
  unfold wire_fixed_s.f at h
  split at h
  · rename_i hs
    exact ⟨a0.size + 1, (wire_fixed_eval a0 hs a0.size (a0.size + 1) 0 (by omega) (by omega) (by omega)).trans h⟩
  · cases h

set_option maxHeartbeats 1000000 in
theorem wire_fixed_s.calls (a0 : ByteArray) (r : Int) (w : World) (h : wire_fixed_s.f a0 = some r) :
    Calls Try.prog 50 #[.string a0] w fun e w' => e = .returned (.int .u64 r) ∧ Drawn0 w w' := by
  obtain ⟨k, hk⟩ := wire_fixed_s.ev a0 _ h
  exact wire_fixed.calls k a0 r w hk

end Go.Proofs.Ytohddbiedabmhaa.X
