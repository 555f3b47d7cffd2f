-- by xprint.py, a program of this session, over the kit's print.py
import Derived.Test.YtohddbiedabmhaaT0
import Derived.Test.YtohddbiedabmhaaLVarint
namespace Go.Proofs.Ytohddbiedabmhaa.X
open Go.RowKit Go.Proofs.YtohddbiedabmhaaW.PrintWords Go.Proofs.YtohddbiedabmhaaW.PrintLast Go.Proofs.YtohddbiedabmhaaW.PrintMore
attribute [local go_sem] max2_int min2_int max_two min_two max_three min_three max_four min_four   -- for this text's walks alone
set_option linter.unusedVariables false
set_option linter.unusedSimpArgs false

theorem vPut_bound (v : Nat) : ∀ c ∈ vPut v, c < 256 := by
  induction v using Nat.strongRecOn with
  | _ v ih =>
    by_cases h : v < 128
    · rw [vPut_lt h]; intro c hc; simp at hc; omega
    · rw [vPut_ge h]; intro c hc
      rcases List.mem_cons.1 hc with rfl | hc
      · omega
      · exact ih _ (by omega) c hc
theorem ns_strOfNums (l : List Nat) (h : ∀ c ∈ l, c < 256) : ns (strOfNums (l.map Int.ofNat)) = l := by
  unfold ns strOfNums
  simp only [List.map_map]
  refine (List.map_congr_left (g := id) ?_).trans (List.map_id _)
  intro c hc
  have := h c hc
  simp [UInt8.toNat_ofNat']
  omega
theorem ns_vStr (v : Nat) : ns (vStr v) = vPut v := ns_strOfNums _ (vPut_bound v)
theorem ns_append (a b : ByteArray) : ns (a ++ b) = ns a ++ ns b := by
  simp [ns, ByteArray.data_append]
theorem ns_inj {a b : ByteArray} (h : ns a = ns b) : a = b := by
  have : a.data.toList = b.data.toList := by
    unfold ns at h
    exact (List.map_inj_right (fun x y e => UInt8.toNat_inj.1 e)).1 h
  cases a; cases b; simp_all
theorem ns_extract (s : ByteArray) (i j : Nat) : ns (s.extract i j) = ((ns s).drop i).take (j - i) := by
  simp [ns, ByteArray.data_extract, List.map_drop, List.map_take, Array.toList_extract, List.extract_eq_take_drop]
theorem vStr_size (v : Nat) : (vStr v).size = vSize v := by rw [← ns_length, ns_vStr, vPut_length]
theorem readS_put (v : Nat) : ∀ (l : List Nat) (n u : Nat), n ≤ 9 → v * 128 ^ n < 18446744073709551616 → readS (vPut v ++ l) n u = (u + v * 128 ^ n, n + vSize v, 0) := by
  induction v using Nat.strongRecOn with
  | _ v ih =>
    intro l n u hn hv
    by_cases h : v < 128
    · rw [vPut_lt h, vSize_lt h, List.singleton_append, readS_cons, if_pos h]
      intro h9; subst h9; omega
    · have hn9 : n < 9 := by
        rcases Nat.lt_or_ge n 9 with h9 | h9
        · exact h9
        · obtain rfl : n = 9 := by omega
          omega
      rw [vPut_ge h, vSize_ge h, List.cons_append, readS_cons (by omega), if_neg (by omega), show (v % 128 + 128) % 128 = v % 128 by omega]
      have hp : 128 ^ (n + 1) = 128 * 128 ^ n := by rw [Nat.pow_succ, Nat.mul_comm]
      have hm : v / 128 * 128 ^ (n + 1) + v % 128 * 128 ^ n = v * 128 ^ n := by
        rw [hp, ← Nat.mul_assoc, ← Nat.add_mul]; congr 1; omega
      rw [ih (v / 128) (by omega) l (n + 1) _ (by omega) (by omega)]
      rw [show u + v % 128 * 128 ^ n + v / 128 * 128 ^ (n + 1) = u + v * 128 ^ n by omega, show n + 1 + vSize (v / 128) = n + (vSize (v / 128) + 1) by omega]
theorem vRead_put (v : Nat) (hv : v < 18446744073709551616) (b : ByteArray) : vRead (vStr v ++ b) = (v, vSize v, 0) := by
  unfold vRead
  rw [ns_append, ns_vStr, readS_put v _ 0 0 (by omega) (by simpa using hv)]
  simp

theorem readS_aux8 (c m : Nat) (h : m * 9223372036854775808 < 18446744073709551616) : c % 128 * 72057594037927936 + m * 9223372036854775808 < 18446744073709551616 := by
  have hc : c % 128 * 72057594037927936 ≤ 127 * 72057594037927936 := Nat.mul_le_mul_right _ (by omega)
  have hm : m ≤ 1 := by
    rcases Nat.lt_or_ge m 2 with h2 | h2
    · omega
    · exact absurd (Nat.mul_le_mul_right 9223372036854775808 h2) (Nat.not_le.2 h)
  have hm2 : m * 9223372036854775808 ≤ 1 * 9223372036854775808 := Nat.mul_le_mul_right _ hm
  exact Nat.lt_of_le_of_lt (Nat.add_le_add hc hm2) (by decide)
theorem readS_aux9 {c : Nat} (h9 : ¬ (9 = 9 ∧ 1 < c)) (hc : ¬ c < 128) : False := by omega
theorem readS_ok : ∀ (l : List Nat) (n u y k : Nat), n ≤ 9 → (∀ c ∈ l, c < 256) → readS l n u = (y, k, 0) →
    ∃ m, y = u + m * 128 ^ n ∧ n + vSize m ≤ k ∧ k ≤ n + l.length ∧ k ≤ 10 ∧ m * 128 ^ n < 18446744073709551616 ∧ (n + vSize m = k → l.take (k - n) = vPut m) := by
  intro l
  induction l with
  | nil => intro n u y k _ _ h; simp [readS] at h
  | cons c l ih =>
    intro n u y k hn hb h
    by_cases h9 : n = 9 ∧ 1 < c
    · rw [readS, if_pos h9] at h; simp at h
    · rw [readS_cons (by omega)] at h
      have hp : 128 ^ (n + 1) = 128 * 128 ^ n := by rw [Nat.pow_succ, Nat.mul_comm]
      by_cases hc : c < 128
      · rw [if_pos hc] at h
        simp only [Prod.mk.injEq] at h
        obtain ⟨rfl, rfl, -⟩ := h
        refine ⟨c, rfl, by rw [vSize_lt hc]; omega, by simp, by omega, ?_, ?_⟩
        · rcases Nat.lt_or_ge n 9 with h | h
          · have h1 : 128 ^ n ≤ 128 ^ 8 := Nat.pow_le_pow_right (by decide) (by omega)
            have h2 : c * 128 ^ n ≤ 127 * 128 ^ 8 := Nat.mul_le_mul (by omega) h1
            omega
          · obtain rfl : n = 9 := by omega
            have h2 : c * 128 ^ 9 ≤ 1 * 128 ^ 9 := Nat.mul_le_mul_right _ (by omega)
            omega
        · intro _
          rw [vPut_lt hc, show n + 1 - n = 1 by omega]; rfl
      · rw [if_neg hc] at h
        have hb' := hb c (List.mem_cons_self ..)
        obtain ⟨m, h1, h2, h3, h4, h5, h6⟩ := ih (n + 1) _ y k (by omega) (fun x hx => hb x (List.mem_cons_of_mem _ hx)) h
        have hpos := vSize_pos m
        have hm : (c % 128 + 128 * m) * 128 ^ n = c % 128 * 128 ^ n + m * 128 ^ (n + 1) := by
          rw [hp, Nat.add_mul, Nat.mul_comm 128 m, Nat.mul_assoc]
        refine ⟨c % 128 + 128 * m, by rw [hm]; omega, ?_, by simp; omega, h4, ?_, ?_⟩
        · by_cases hs : c % 128 + 128 * m < 128
          · rw [vSize_lt hs]; omega
          · rw [vSize_ge hs, show (c % 128 + 128 * m) / 128 = m by omega]; omega
        · rw [hm]
          rcases Nat.lt_or_ge n 8 with h8 | h8
          · have : n + 1 ≤ 8 := h8
            have hx : m * 128 ^ (n + 1) < 18446744073709551616 := h5
            have ha : c % 128 * 128 ^ n ≤ 127 * 128 ^ n := Nat.mul_le_mul_right _ (by omega)
            rw [hp] at hx ⊢
            have hq : 18446744073709551616 = 128 * 128 ^ n * (18446744073709551616 / (128 * 128 ^ n)) := by
              obtain rfl | rfl | rfl | rfl | rfl | rfl | rfl | rfl : n = 0 ∨ n = 1 ∨ n = 2 ∨ n = 3 ∨ n = 4 ∨ n = 5 ∨ n = 6 ∨ n = 7 := by omega
              all_goals decide
            generalize 18446744073709551616 / (128 * 128 ^ n) = z at hq
            generalize 128 ^ n = p at *
            have : m < z := by
              rcases Nat.lt_or_ge m z with h | h
              · exact h
              · have : 128 * p * z ≤ 128 * p * m := Nat.mul_le_mul_left _ h
                rw [Nat.mul_comm m] at hx
                omega
            have hz : (m + 1) * (128 * p) ≤ z * (128 * p) := Nat.mul_le_mul_right _ this
            rw [Nat.add_mul, Nat.one_mul] at hz
            rw [Nat.mul_comm z] at hz
            omega
          · clear h6 h ih
            have h8' : n = 8 ∨ n = 9 := by omega
            rcases h8' with rfl | rfl
            · exact readS_aux8 c m h5
            · exact (readS_aux9 h9 hc).elim
        · intro hk
          have hs : ¬ c % 128 + 128 * m < 128 := by
            intro hs
            rw [vSize_lt hs] at hk
            omega
          rw [vSize_ge hs, show (c % 128 + 128 * m) / 128 = m by omega] at hk
          rw [vPut_ge hs, show (c % 128 + 128 * m) / 128 = m by omega, show k - n = (k - (n + 1)) + 1 by omega, List.take_succ_cons, h6 (by omega)]
          congr 1; omega
theorem vRead_ok (b : ByteArray) (y k : Nat) (h : vRead b = (y, k, 0)) : y < 18446744073709551616 ∧ vSize y ≤ k ∧ k ≤ b.size ∧ k ≤ 10 ∧ (vSize y = k → b.extract 0 k = vStr y) := by
  obtain ⟨m, h1, h2, h3, h4, h5, h6⟩ := readS_ok (ns b) 0 0 y k (by omega) (ns_lt b) h
  simp only [Nat.pow_zero, Nat.mul_one, Nat.zero_add] at *
  subst h1
  refine ⟨h5, h2, by rw [← ns_length]; exact h3, h4, fun e => ns_inj ?_⟩
  rw [ns_extract, ns_vStr]
  simpa using h6 e

end Go.Proofs.Ytohddbiedabmhaa.X
