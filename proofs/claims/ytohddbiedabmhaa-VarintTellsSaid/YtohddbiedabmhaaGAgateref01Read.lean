-- by xprint.py, a program of this session, over the kit's print.py
import Derived.Test.YtohddbiedabmhaaT0
import Derived.Test.YtohddbiedabmhaaFAgateref01Read
import Derived.Test.YtohddbiedabmhaaLVarint
namespace Go.Proofs.Ytohddbiedabmhaa.X
open Go.RowKit Go.Proofs.YtohddbiedabmhaaW.PrintWords Go.Proofs.YtohddbiedabmhaaW.PrintLast Go.Proofs.YtohddbiedabmhaaW.PrintMore
attribute [local go_sem] max2_int min2_int max_two min_two max_three min_three max_four min_four   -- for this text's walks alone
set_option linter.unusedVariables false
set_option linter.unusedSimpArgs false

def agateref01_Read_s.f (a0 : ByteArray) : Option (Int × Int × Int) := some ((vRead a0).1, (vRead a0).2.1, (vRead a0).2.2)
theorem refread_step (v c i : Nat) (hv : v < 128 ^ i) (hi : i ≤ 9) (h9 : i = 9 → c ≤ 1) :
    IntKind.u64.wrap ((v : Int) + IntKind.u64.wrap (IntKind.u64.wrap (Int.tmod (c : Int) 128) * ((128 ^ i : Nat) : Int))) = ((v + c % 128 * 128 ^ i : Nat) : Int) := by
  have hp : v + c % 128 * 128 ^ i < 18446744073709551616 := by
    rcases Nat.lt_or_ge i 9 with h | h
    · have h1 : 128 ^ i ≤ 128 ^ 8 := Nat.pow_le_pow_right (by decide) (by omega)
      have h2 : c % 128 * 128 ^ i ≤ 127 * 128 ^ 8 := Nat.mul_le_mul (by omega) h1
      omega
    · obtain rfl : i = 9 := by omega
      have := h9 rfl
      have h2 : c % 128 * 128 ^ 9 ≤ 1 * 128 ^ 9 := Nat.mul_le_mul_right _ (by omega)
      omega
  have e : IntKind.u64.wrap (Int.tmod (c : Int) 128) * ((128 ^ i : Nat) : Int) = ((c % 128 * 128 ^ i : Nat) : Int) := by
    rw [Int.tmod_eq_emod_of_nonneg (by omega), u64_wrap, Int.natCast_mul]
    congr 1; omega
  rw [e, u64_wrap, u64_wrap]
  generalize c % 128 * 128 ^ i = x at *
  omega
theorem agateref01_Read_eval (s : ByteArray) (d : Nat) : ∀ (k i v : Nat), i ≤ 9 → 9 - i = d → i ≤ s.size → v < 128 ^ i → 2 * d + 2 ≤ k →
    agateref01_Read.l0 k s (v : Int) ((128 ^ i : Nat) : Int) (i : Int) = some (((readS ((ns s).drop i) i v).1 : Int), ((readS ((ns s).drop i) i v).2.1 : Int), ((readS ((ns s).drop i) i v).2.2 : Int)) := by
  induction d with
  | zero =>
    intro k i v hi hd hs hv hk
    obtain rfl : i = 9 := by omega
    obtain ⟨k, rfl⟩ : ∃ m, k = m + 2 := ⟨k - 2, by omega⟩
    simp only [agateref01_Read.l0]
    rw [if_pos (by omega)]
    by_cases h : s.size = 9
    · rw [if_pos (by omega), ns_drop_end _ _ (by omega)]; rfl
    · have hlt : 9 < s.size := by omega
      rw [if_neg (by omega), if_pos (by rfl), if_pos (by omega), if_pos (by omega), ns_drop s 9 hlt]
      have hb : bt s ((9 : Nat) : Int) = ((s[9]'hlt).toNat : Int) := bt_ns s 9 hlt
      simp only [agateref01_Read.j1]
      by_cases hc : 1 < (s[9]'hlt).toNat
      · rw [if_pos (decide_eq_true (by rw [hb]; omega)), readS, if_pos ⟨rfl, hc⟩]; rfl
      · rw [if_neg (by rw [decide_eq_true_iff, hb]; omega), if_pos (by omega), if_pos (by omega), if_pos (by rw [hb]; omega), readS_cons (by omega), if_pos (by omega), hb, refread_step v _ 9 hv (by omega) (by omega)]
        rw [Nat.mod_eq_of_lt (show (s[9]'hlt).toNat < 128 by omega), show wrap64 (((9 : Nat) : Int) + 1) = 10 from by unfold wrap64; decide]
        rfl
  | succ d ih =>
    intro k i v hi hd hs hv hk
    obtain ⟨k, rfl⟩ : ∃ m, k = m + 2 := ⟨k - 2, by omega⟩
    simp only [agateref01_Read.l0]
    rw [if_pos (by omega)]
    by_cases h : s.size = i
    · rw [if_pos (by omega), ns_drop_end _ _ (by omega)]; rfl
    · have hlt : i < s.size := by omega
      rw [if_neg (by omega), if_neg (by omega), ns_drop s i hlt]
      have hb : bt s (i : Int) = ((s[i]'hlt).toNat : Int) := bt_ns s i hlt
      simp only [agateref01_Read.j1]
      rw [if_neg (by decide), if_pos (by omega), if_pos (by omega), hb, refread_step v _ i hv (by omega) (by omega), readS_cons (by omega)]
      have ew : wrap64 ((i : Int) + 1) = ((i + 1 : Nat) : Int) := by unfold wrap64; omega
      rw [ew]
      by_cases hc : (s[i]'hlt).toNat < 128
      · rw [if_pos (by omega), if_pos hc, Nat.mod_eq_of_lt hc]; rfl
      · rw [if_neg (by omega), if_neg hc]
        have hu : IntKind.u64.wrap (((128 ^ i : Nat) : Int) * 128) = ((128 ^ (i + 1) : Nat) : Int) := by
          rw [u64_wrap, Nat.pow_succ]
          have h1 : 128 ^ i ≤ 128 ^ 8 := Nat.pow_le_pow_right (by decide) (by omega)
          generalize 128 ^ i = x at *
          omega
        rw [hu]
        refine ih k (i + 1) _ (by omega) (by omega) (by omega) ?_ (by omega)
        have h1 : (s[i]'hlt).toNat % 128 * 128 ^ i ≤ 127 * 128 ^ i := Nat.mul_le_mul_right _ (by omega)
        rw [Nat.pow_succ]; omega
theorem agateref01_Read_s.ev (a0 : ByteArray) (r) (h : agateref01_Read_s.f a0 = some r) : ∃ k, agateref01_Read.f k a0 = some r := by
  exact ⟨20, (agateref01_Read_eval a0 9 20 0 0 (by omega) (by omega) (by omega) (by decide) (by omega)).trans h⟩

set_option maxHeartbeats 1000000 in
theorem agateref01_Read_s.calls (a0 : ByteArray) (r1 : Int) (r2 : Int) (r3 : Int) (w : World) (h : agateref01_Read_s.f a0 = some (r1, r2, r3)) :
    Calls Try.prog 14 #[.string a0] w fun e w' => e = .returned (.tuple #[.int .u64 r1, .int .i64 r2, .int .i64 r3]) ∧ Drawn0 w w' := by
  obtain ⟨k, hk⟩ := agateref01_Read_s.ev a0 _ h
  exact agateref01_Read.calls k a0 r1 r2 r3 w hk

end Go.Proofs.Ytohddbiedabmhaa.X
