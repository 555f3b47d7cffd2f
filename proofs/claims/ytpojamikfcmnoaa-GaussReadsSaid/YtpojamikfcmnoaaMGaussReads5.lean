import Derived.Test.YtpojamikfcmnoaaMGaussReads0
import Derived.Test.YtpojamikfcmnoaaMGaussReads2
import Derived.Test.YtpojamikfcmnoaaMGaussReads4
import Derived.Test.YtpojamikfcmnoaaMGaussReads3
import Derived.Test.YtpojamikfcmnoaaMGaussReads1
-- by xprint.py, a program of this session, over the kit's print.py
namespace Go.Proofs.Ytpojamikfcmnoaa.X
open Go.RowKit Go.Proofs.YtpojamikfcmnoaaW.PrintWords Go.Proofs.YtpojamikfcmnoaaW.PrintLast Go.Proofs.YtpojamikfcmnoaaW.PrintMore
attribute [local go_sem] max2_int min2_int max_two min_two max_three min_three max_four min_four   -- for this text's walks alone
set_option linter.unusedVariables false
set_option linter.unusedSimpArgs false

def agateref06_Put_s.f (a b : Int) : Option (ByteArray × Int) := some (putR a b)
theorem ref06_laid (v : Nat) (h : v < 4294967296) : agateref06_laid.f (v : Int) = some (laidV v) := by
  unfold agateref06_laid.f laidV
  have e1 : Int.tmod (v : Int) 256 % 256 = (v : Int) % 256 := by
    rw [show Int.tmod (v : Int) 256 = ((v % 256 : Nat) : Int) from rfl]; omega
  have e2 : Int.tdiv (v : Int) 256 % 4294967296 % 256 = (v : Int) / 256 % 256 := by
    rw [show Int.tdiv (v : Int) 256 = ((v / 256 : Nat) : Int) from rfl]; omega
  have e3 : Int.tdiv (v : Int) 65536 % 4294967296 % 256 = (v : Int) / 65536 % 256 := by
    rw [show Int.tdiv (v : Int) 65536 = ((v / 65536 : Nat) : Int) from rfl]; omega
  have e4 : Int.tdiv (v : Int) 16777216 % 4294967296 % 256 = (v : Int) / 16777216 % 256 := by
    rw [show Int.tdiv (v : Int) 16777216 = ((v / 16777216 : Nat) : Int) from rfl]; omega
  rw [e1, e2, e3, e4]
theorem agateref06_Put_s.ev (a b : Int) (r) (h : agateref06_Put_s.f a b = some r) : ∃ k : Nat, agateref06_Put.f a b = some r := by
  refine ⟨0, ?_⟩
  rw [← h]
  show (if mayR a b = true then _ else _) = _
  unfold agateref06_Put_s.f putR
  by_cases hm : mayR a b = true
  · rw [if_pos hm, if_pos hm]
    have hs : (-1048576 ≤ a ∧ a ≤ 1048576) ∧ (-1048576 ≤ b ∧ b ≤ 1048576) := by
      unfold mayR at hm
      simpa only [Bool.and_eq_true, decide_eq_true_eq] using hm
    have e1 : agateref06_bits_s.f a = some (floatOfInt .f32 a : Int) := if_pos hs.1
    have e2 : agateref06_bits_s.f b = some (floatOfInt .f32 b : Int) := if_pos hs.2
    rw [e1, Option.bind_some, ref06_laid _ (F32_lt a), Option.bind_some, e2, Option.bind_some, ref06_laid _ (F32_lt b), Option.bind_some, if_pos (by rw [laidV_size, laidV_size]; decide)]
  · rw [if_neg hm, if_neg hm]

set_option maxHeartbeats 1000000 in
theorem agateref06_Put_s.calls (a0_0 : Int) (a0_1 : Int) (r1 : ByteArray) (r2 : Int) (w : World) (h : agateref06_Put_s.f a0_0 a0_1 = some (r1, r2)) :
    Calls Try.prog 20 #[.agg #[.int .i64 a0_0, .int .i64 a0_1]] w fun e w' => e = .returned (.tuple #[.string r1, .int .i64 r2]) ∧ Below w.heap.size w w' := by
  obtain ⟨k, hk⟩ := agateref06_Put_s.ev a0_0 a0_1 _ h
  exact agateref06_Put.calls a0_0 a0_1 r1 r2 w hk

end Go.Proofs.Ytpojamikfcmnoaa.X
-- by xprint.py, a program of this session, over the kit's print.py
namespace Go.Proofs.Ytpojamikfcmnoaa.X
open Go.RowKit Go.Proofs.YtpojamikfcmnoaaW.PrintWords Go.Proofs.YtpojamikfcmnoaaW.PrintLast Go.Proofs.YtpojamikfcmnoaaW.PrintMore
attribute [local go_sem] max2_int min2_int max_two min_two max_three min_three max_four min_four   -- for this text's walks alone
set_option linter.unusedVariables false
set_option linter.unusedSimpArgs false

def wholeS (v : Nat) : Int × Bool :=
  if v = 0 then (0, true)
  else if v / 8388608 % 256 < 127 ∨ v / 8388608 % 256 > 147 then (0, false)
  else if (v % 8388608 + 8388608) % 2 ^ (150 - v / 8388608 % 256) = 0 then (sgn (decide (v ≥ 2147483648)) ((v % 8388608 + 8388608) / 2 ^ (150 - v / 8388608 % 256)), decide ((v % 8388608 + 8388608) / 2 ^ (150 - v / 8388608 % 256) ≤ 1048576))
  else (0, false)
/-- the word of a single, made a double (a NaN is none) -/
def wideV (v : Nat) : Nat := Ieee.double.write (Ieee.single.read v)
theorem read_single (v : Nat) (hv : v < 4294967296) : Ieee.single.read v =
    (if v % 2147483648 < 8388608 then .number (decide (v ≥ 2147483648)) (v % 2147483648) (-149)
     else if v % 2147483648 < 2139095040 then .number (decide (v ≥ 2147483648)) (8388608 + v % 8388608) (-149 + ((v / 8388608 % 256 - 1 : Nat) : Int))
     else if v % 2147483648 = 2139095040 then .infinity (decide (v ≥ 2147483648))
     else .nan (decide (v ≥ 2147483648)) (v % 2147483648 - 2139095040)) := by
  have hb : Ieee.single.binade = 8388608 := by decide
  have hi : Ieee.single.infRung = 2139095040 := by decide
  have hs : Ieee.single.signWeight = 2147483648 := by decide
  unfold Ieee.Format.read
  dsimp only
  rw [hb, hi, hs, sl]
  have e1 : (v / 2147483648 % 2 == 1) = decide (v ≥ 2147483648) := by
    rw [Bool.eq_iff_iff, beq_iff_eq, decide_eq_true_iff]; omega
  have e2 : v % 2147483648 % 8388608 = v % 8388608 := by omega
  have e3 : v % 2147483648 / 8388608 = v / 8388608 % 256 := by omega
  rw [e1, e2, e3]
theorem wide_number {v : Nat} {s : Bool} {m : Nat} {p : Int} (h : Ieee.single.read v = .number s m p) (hp : p ≤ 104) : Num Ieee.double (wideV v) s (m * 2 ^ (p + 1074).toNat) ∧ wideV v = Ieee.double.nearest s m p := by
  obtain ⟨h1, h2⟩ := read_small h
  rw [sl] at h2
  have hb : Ieee.single.binade = 8388608 := by decide
  rw [hb] at h1
  have e : wideV v = Ieee.double.nearest s m p := by unfold wideV; rw [h]; rfl
  refine ⟨?_, e⟩
  rw [e]
  have hl : m.log2 ≤ 24 := by
    by_cases h0 : m = 0
    · subst h0; decide
    · have := (Nat.log2_lt h0).2 (show m < 2 ^ 24 by omega); omega
  have := num_nearest Ieee.double s m p (by rw [dl]; omega) (by show m < 2 ^ 53; omega) (by
    rw [dl]
    show (p + (m.log2 : Int) - ((52 : Nat) : Int) - (-1074)).toNat + 3 ≤ 2 ^ 11
    omega)
  rw [dl, Int.sub_neg] at this
  exact this
theorem wide_lt (v : Nat) : wideV v < 18446744073709551616 := Ieee.double.write_lt _
theorem Ubig_cut (e : Nat) (h : e ≤ 1074) : Ubig = 2 ^ (1074 - e) * 2 ^ e := by
  have : ∀ E, E = 1074 → Ubig = 2 ^ E := fun E hE => by rw [hE]; exact Ubig_eq
  rw [this (1074 - e + e) (by omega), Nat.pow_add]
/-- a multiple -/
theorem part_wide (x : Nat) (hx : x < 18446744073709551616) (s : Bool) (m j : Nat) (hj : j ≤ 1074) (hm : 0 < m) (h : Num Ieee.double x s (m * 2 ^ (1074 - j))) :
    (m % 2 ^ j = 0 → IntF x s (m / 2 ^ j)) ∧ partE x = (decide (m % 2 ^ j = 0) && decide (m / 2 ^ j ≤ 1048576)) := by
  have hU := Ubig_cut j hj
  have hA : 0 < 2 ^ (1074 - j) := Nat.two_pow_pos _
  have hJ : 0 < 2 ^ j := Nat.two_pow_pos _
  have hd : m * 2 ^ (1074 - j) / Ubig = m / 2 ^ j := by
    rw [hU, Nat.mul_comm (2 ^ (1074 - j)), Nat.mul_div_mul_right _ _ hA]
  have hmul : ∀ q, q * Ubig = q * 2 ^ j * 2 ^ (1074 - j) := fun q => by rw [hU, Nat.mul_comm (2 ^ (1074 - j)), Nat.mul_assoc]
  have hdm := Nat.div_add_mod m (2 ^ j)
  rw [Nat.mul_comm] at hdm
  have hI : m % 2 ^ j = 0 → IntF x s (m / 2 ^ j) := by
    intro g
    unfold IntF
    rw [hmul]
    have : m / 2 ^ j * 2 ^ j = m := by omega
    rw [this]; exact h
  refine ⟨hI, ?_⟩
  by_cases g : m % 2 ^ j = 0
  · rw [part_int hx (hI g), decide_eq_true g, Bool.true_and]
    have : m / 2 ^ j ≠ 0 := by
      intro h0
      rw [h0, Nat.zero_mul] at hdm; omega
    rw [decide_eq_true this, Bool.true_or, Bool.and_true]
  · rw [part_num hx h, decide_eq_false g, Bool.false_and, hd, hmul (m / 2 ^ j)]
    have : ¬ (m / 2 ^ j * 2 ^ j * 2 ^ (1074 - j) = m * 2 ^ (1074 - j)) := by
      intro e
      have := Nat.eq_of_mul_eq_mul_right hA e
      omega
    rw [decide_eq_false this, Bool.false_and, Bool.and_false]
theorem whole_wide (v : Nat) (hv : v < 4294967296) (hn : (Ieee.single.read v).isNaN = false) : partE (wideV v) = (wholeS v).2 ∧ ((wholeS v).2 = true → wideV v = floatOfInt .f64 (wholeS v).1 ∧ (-1048576 ≤ (wholeS v).1 ∧ (wholeS v).1 ≤ 1048576) ∧ v = floatOfInt .f32 (wholeS v).1) := by
  have hr := read_single v hv
  have hx := wide_lt v
  by_cases h0 : v = 0
  · subst h0
    have ew : wideV 0 = floatOfInt .f64 0 := by decide +kernel
    have es : wholeS 0 = (0, true) := by unfold wholeS; rw [if_pos rfl]
    rw [es, ew, part_F 0 (by decide) (by decide)]
    refine ⟨by decide, fun _ => ⟨rfl, by decide, by decide +kernel⟩⟩
  by_cases hE : v / 8388608 % 256 < 127 ∨ v / 8388608 % 256 > 147
  · have es : wholeS v = (0, false) := by unfold wholeS; rw [if_neg h0, if_pos hE]
    rw [es]
    refine ⟨?_, fun h => by cases h⟩
    by_cases h1 : v % 2147483648 < 8388608
    · rw [if_pos h1] at hr
      have hw := (wide_number hr (by decide)).1
      obtain ⟨E, hE2⟩ : ∃ E : Nat, E = 149 := ⟨_, rfl⟩
      rw [show ((-149 : Int) + 1074).toNat = 1074 - E by omega] at hw
      by_cases hz : v % 2147483648 = 0
      · rw [hz, Nat.zero_mul] at hw
        rw [part_num hx hw, decide_eq_true (show v ≥ 2147483648 by omega)]
        simp
      · rw [(part_wide _ hx _ _ E (by omega) (by omega) hw).2]
        have : ¬ v % 2147483648 % 2 ^ E = 0 := by
          rw [Nat.mod_eq_of_lt (Nat.lt_of_lt_of_le (show v % 2147483648 < 2 ^ 23 by omega) (Nat.pow_le_pow_right (by decide) (by omega)))]
          exact hz
        rw [decide_eq_false this, Bool.false_and]
    · rw [if_neg h1] at hr
      by_cases h2 : v % 2147483648 < 2139095040
      · rw [if_pos h2] at hr
        have hw := (wide_number hr (by omega)).1
        by_cases h3 : v / 8388608 % 256 < 127
        · rw [show (-149 + ((v / 8388608 % 256 - 1 : Nat) : Int) + 1074).toNat = 1074 - (150 - v / 8388608 % 256) by omega] at hw
          rw [(part_wide _ hx _ _ (150 - v / 8388608 % 256) (by omega) (by omega) hw).2]
          have : ¬ (8388608 + v % 8388608) % 2 ^ (150 - v / 8388608 % 256) = 0 := by
            rw [Nat.mod_eq_of_lt (Nat.lt_of_lt_of_le (show 8388608 + v % 8388608 < 2 ^ 24 by omega) (Nat.pow_le_pow_right (by decide) (by omega)))]
            omega
          rw [decide_eq_false this, Bool.false_and]
        · have hbig : ¬ ((8388608 + v % 8388608) * 2 ^ (-149 + ((v / 8388608 % 256 - 1 : Nat) : Int) + 1074).toNat ≤ 1048576 * Ubig) := by
            obtain ⟨E, hE2⟩ : ∃ E : Nat, E = 2 := ⟨_, rfl⟩
            have hU := Ubig_cut E (by omega)
            have hle : 2 ^ (1074 - E) ≤ 2 ^ (-149 + ((v / 8388608 % 256 - 1 : Nat) : Int) + 1074).toNat := Nat.pow_le_pow_right (by decide) (by omega)
            have hA : 0 < 2 ^ (1074 - E) := Nat.two_pow_pos _
            generalize 2 ^ (1074 - E) = A at hU hle hA
            rw [hE2] at hU
            generalize 2 ^ (-149 + ((v / 8388608 % 256 - 1 : Nat) : Int) + 1074).toNat = B at hle
            have h5 : 8388608 * A ≤ (8388608 + v % 8388608) * B := Nat.mul_le_mul (by omega) hle
            rw [hU]; omega
          rw [part_num hx hw, decide_eq_false hbig, Bool.false_and]
      · rw [if_neg h2] at hr
        by_cases h3 : v % 2147483648 = 2139095040
        · rw [if_pos h3] at hr
          have hi : Ieee.double.read (wideV v) = .infinity (decide (v ≥ 2147483648)) := by
            unfold wideV; rw [hr]
            generalize decide (v ≥ 2147483648) = s
            cases s <;> decide +kernel
          unfold partE
          rw [order_inf hi cN, order_inf hi cP]
          generalize decide (v ≥ 2147483648) = s
          cases s <;> rfl
        · rw [if_neg h3] at hr
          rw [hr] at hn; cases hn
  · have h1 : ¬ v % 2147483648 < 8388608 := by omega
    have h2 : v % 2147483648 < 2139095040 := by omega
    rw [if_neg h1, if_pos h2] at hr
    obtain ⟨hw, ew⟩ := wide_number hr (by omega)
    rw [show (-149 + ((v / 8388608 % 256 - 1 : Nat) : Int) + 1074).toNat = 1074 - (150 - v / 8388608 % 256) by omega, Nat.add_comm 8388608] at hw
    obtain ⟨p1, p2⟩ := part_wide _ hx _ _ (150 - v / 8388608 % 256) (by omega) (by omega) hw
    by_cases g : (v % 8388608 + 8388608) % 2 ^ (150 - v / 8388608 % 256) = 0
    · have es : wholeS v = (sgn (decide (v ≥ 2147483648)) ((v % 8388608 + 8388608) / 2 ^ (150 - v / 8388608 % 256)), decide ((v % 8388608 + 8388608) / 2 ^ (150 - v / 8388608 % 256) ≤ 1048576)) := by
        unfold wholeS; rw [if_neg h0, if_neg hE, if_pos g]
      rw [es, p2, decide_eq_true g, Bool.true_and]
      refine ⟨rfl, fun hk => ?_⟩
      have hk : (v % 8388608 + 8388608) / 2 ^ (150 - v / 8388608 % 256) ≤ 1048576 := of_decide_eq_true hk
      have hi := p1 g
      have hdm := Nat.div_add_mod (v % 8388608 + 8388608) (2 ^ (150 - v / 8388608 % 256))
      rw [g, Nat.add_zero, Nat.mul_comm] at hdm
      generalize hK : (v % 8388608 + 8388608) / 2 ^ (150 - v / 8388608 % 256) = K at hk hi hdm ⊢
      have hK0 : K ≠ 0 := by
        intro h; rw [h, Nat.zero_mul] at hdm; omega
      have hsg : ∀ s : Bool, decide (sgn s K < 0) = s ∧ (sgn s K).natAbs = K := by
        intro s
        refine ⟨?_, sgn_abs s K⟩
        unfold sgn; cases s <;> simp <;> omega
      refine ⟨?_, ?_, ?_⟩
      · rw [F_eq, (hsg _).1, (hsg _).2, ew]
        refine dI_of (by omega) ?_
        have hU := Ubig_cut (150 - v / 8388608 % 256) (by omega)
        rw [show (-149 + ((v / 8388608 % 256 - 1 : Nat) : Int) + 1074).toNat = 1074 - (150 - v / 8388608 % 256) by omega, hU, Nat.mul_comm (2 ^ (1074 - _)), ← Nat.mul_assoc, hdm, Nat.add_comm]
      · unfold sgn; split <;> omega
      · have hn0 : sgn (decide (v ≥ 2147483648)) K ≠ 0 := by
          unfold sgn; split <;> omega
        rw [F32_word _ hn0 (by rw [sgn_abs]; omega), sgn_abs]
        have hlog : K.log2 = 23 - (150 - v / 8388608 % 256) := by
          rw [Nat.log2_eq_iff hK0]
          have hJ : 0 < 2 ^ (150 - v / 8388608 % 256) := Nat.two_pow_pos _
          constructor
          · refine Nat.le_of_mul_le_mul_right ?_ hJ
            rw [hdm, ← Nat.pow_add, show 23 - (150 - v / 8388608 % 256) + (150 - v / 8388608 % 256) = 23 by omega]
            omega
          · refine Nat.lt_of_mul_lt_mul_right (a := 2 ^ (150 - v / 8388608 % 256)) ?_
            rw [hdm, ← Nat.pow_add, show 23 - (150 - v / 8388608 % 256) + 1 + (150 - v / 8388608 % 256) = 24 by omega]
            omega
        rw [hlog, show 23 - (23 - (150 - v / 8388608 % 256)) = 150 - v / 8388608 % 256 by omega, hdm]
        have hneg : (sgn (decide (v ≥ 2147483648)) K < 0) ↔ v ≥ 2147483648 := by
          have := (hsg (decide (v ≥ 2147483648))).1
          rwa [decide_eq_decide] at this
        by_cases hs : v ≥ 2147483648
        · rw [if_pos (hneg.2 hs)]; omega
        · rw [if_neg (fun h => hs (hneg.1 h))]; omega
    · have es : wholeS v = (0, false) := by unfold wholeS; rw [if_neg h0, if_neg hE, if_neg g]
      rw [es, p2, decide_eq_false g]
      exact ⟨rfl, fun h => by cases h⟩

end Go.Proofs.Ytpojamikfcmnoaa.X
-- by xprint.py, a program of this session, over the kit's print.py
namespace Go.Proofs.Ytpojamikfcmnoaa.X
open Go.RowKit Go.Proofs.YtpojamikfcmnoaaW.PrintWords Go.Proofs.YtpojamikfcmnoaaW.PrintLast Go.Proofs.YtpojamikfcmnoaaW.PrintMore
attribute [local go_sem] max2_int min2_int max_two min_two max_three min_three max_four min_four   -- for this text's walks alone
set_option linter.unusedVariables false
set_option linter.unusedSimpArgs false

def agateref06_whole.f (a0 : Int) : Option (Int × Bool) := if 0 ≤ a0 ∧ a0 < 4294967296 then some (wholeS a0.toNat) else none
theorem neg_w (y : Nat) (h : y ≤ 16777216) : wrap64 (-(y : Int)) = -(y : Int) := wrap64_id (by omega) (by omega)
theorem whole_fin (y : Nat) (b : Bool) (h : y ≤ 16777216) : Ending.returned (.tuple #[.int .i64 (wrap64 (-(y : Int))), .bool b]) = Ending.returned (.tuple #[.int .i64 (sgn true y, b).1, .bool (sgn true y, b).2]) := by
  rw [neg_w y h]; rfl
theorem half_w (y : Nat) (h : y ≤ 16777216) : wrap64 ((y : Int) / 2) = ((y / 2 : Nat) : Int) := by rw [wrap64_id (by omega) (by omega)]; omega
theorem mod_step (M i : Nat) (h : M % 2 ^ i = 0) : M % 2 ^ (i + 1) = 2 ^ i * (M / 2 ^ i % 2) := by
  rw [Nat.pow_succ, Nat.mod_mul, h, Nat.zero_add]
theorem mod_up (M i j : Nat) (hij : i ≤ j) (h : M % 2 ^ j = 0) : M % 2 ^ i = 0 := by
  obtain ⟨d, rfl⟩ : ∃ d, j = i + d := ⟨j - i, by omega⟩
  have h1 := Nat.dvd_of_mod_eq_zero h
  exact Nat.mod_eq_zero_of_dvd (Nat.dvd_trans (Nat.pow_dvd_pow 2 (by omega)) h1)
theorem whole_odd (v i : Nat) (h0 : v ≠ 0) (hi : v / 8388608 % 256 + i < 150) (hE : 127 ≤ v / 8388608 % 256 ∧ v / 8388608 % 256 ≤ 147) (hM : (v % 8388608 + 8388608) % 2 ^ i = 0) (ho : ¬ (v % 8388608 + 8388608) / 2 ^ i % 2 = 0) : wholeS v = (0, false) := by
  unfold wholeS
  rw [if_neg h0, if_neg (by omega), if_neg]
  intro h
  have h2 := mod_up _ (i + 1) _ (by omega) h
  rw [mod_step _ _ hM] at h2
  rcases Nat.mul_eq_zero.1 h2 with h3 | h3
  · have := Nat.two_pow_pos i; omega
  · exact ho h3
theorem whole_end (v i : Nat) (h0 : v ≠ 0) (hi : v / 8388608 % 256 + i = 150) (hE : 127 ≤ v / 8388608 % 256 ∧ v / 8388608 % 256 ≤ 147) (hM : (v % 8388608 + 8388608) % 2 ^ i = 0) : wholeS v = (sgn (decide (v ≥ 2147483648)) ((v % 8388608 + 8388608) / 2 ^ i), decide ((v % 8388608 + 8388608) / 2 ^ i ≤ 1048576)) := by
  unfold wholeS
  rw [if_neg h0, if_neg (by omega), show 150 - v / 8388608 % 256 = i by omega, if_pos hM]
set_option maxHeartbeats 8000000 in
set_option maxRecDepth 100000 in
theorem ref06_whole.calls (v : Nat) (hv : v < 4294967296) (w : World) :
    Calls Try.prog 62 #[.int .u32 (v : Int)] w fun e w' => e = .returned (.tuple #[.int .i64 (wholeS v).1, .bool (wholeS v).2]) ∧ Drawn0 w w' := by
  by_cases h0 : v = 0
  · subst h0
    have es : wholeS 0 = (0, true) := by unfold wholeS; rw [if_pos rfl]
    rw [es]
    go_enter Try.func62, Try.ntmps62
    go_wp2
    go_ret2
    exact ⟨rfl, Drawn0.refl _⟩
  · have h0b : ((v : Int) == 0) = false := beq_eq_false_iff_ne.2 (by omega)
    by_cases h1 : v / 8388608 % 256 < 127
    · have es : wholeS v = (0, false) := by unfold wholeS; rw [if_neg h0, if_pos (Or.inl h1)]
      rw [es]
      have h1b : decide ((v : Int) / 8388608 % 256 < 127) = true := decide_eq_true (by omega)
      clear es h0 h1
      go_enter Try.func62, Try.ntmps62
      go_wp2
      go_ret2
      exact ⟨rfl, Drawn0.refl _⟩
    · have h1b : decide ((v : Int) / 8388608 % 256 < 127) = false := decide_eq_false (by omega)
      by_cases h2 : v / 8388608 % 256 > 147
      · have es : wholeS v = (0, false) := by unfold wholeS; rw [if_neg h0, if_pos (Or.inr h2)]
        rw [es]
        have h2b : decide (147 < (v : Int) / 8388608 % 256) = true := decide_eq_true (by omega)
        clear es h0 h1 h2
        go_enter Try.func62, Try.ntmps62
        go_wp2
        go_ret2
        exact ⟨rfl, Drawn0.refl _⟩
      · have h2b : decide (147 < (v : Int) / 8388608 % 256) = false := decide_eq_false (by omega)
        have hE : Aside0 (127 ≤ v / 8388608 % 256 ∧ v / 8388608 % 256 ≤ 147) := ⟨⟨by omega, by omega⟩⟩
        have H0 := Aside0.mk h0
        have HV := Aside0.mk hv
        clear h0 h1 h2
        go_enter Try.func62, Try.ntmps62
        go_wp2
        clear h0b h1b h2b
        go_loopg [4, 5] (150 - v / 8388608 % 256) (fun kq v4 v5 w' => ∃ i : Nat, v4 = .int .i64 ((v / 8388608 % 256 + i : Nat) : Int) ∧ v5 = .int .i64 (((v % 8388608 + 8388608) / 2 ^ i : Nat) : Int) ∧ Aside0 (v / 8388608 % 256 + i + kq = 150) ∧ Aside0 ((v % 8388608 + 8388608) % 2 ^ i = 0) ∧ Aside0 (Drawn0 w w'))
        case atStart => exact ⟨0, by congr 1, by rw [Nat.pow_zero, Nat.div_one]; congr 1, ⟨by have := hE.out; omega⟩, ⟨by rw [Nat.pow_zero, Nat.mod_one]⟩, ⟨Drawn0.refl _⟩⟩
        case round =>
          obtain ⟨i, rfl, rfl, HK, HM, HD⟩ := hrel
          have hy0 : (v % 8388608 + 8388608) / 2 ^ i ≤ 16777216 := Nat.le_trans (Nat.div_le_self _ _) (by omega)
          have Hodd := Aside0.mk (fun (hi : v / 8388608 % 256 + i < 150) => whole_odd v i H0.out hi hE.out HM.out)
          have Hend := Aside0.mk (fun (hi : v / 8388608 % 256 + i = 150) => whole_end v i H0.out hi hE.out HM.out)
          have Hup : Aside0 ((v % 8388608 + 8388608) / 2 ^ i % 2 = 0 → (v % 8388608 + 8388608) % 2 ^ (i + 1) = 0) := ⟨fun h => by rw [mod_step _ _ HM.out, h, Nat.mul_zero]⟩
          have Hdiv : Aside0 ((v % 8388608 + 8388608) / 2 ^ (i + 1) = (v % 8388608 + 8388608) / 2 ^ i / 2) := ⟨by rw [Nat.pow_succ, Nat.div_div_eq_div_mul]⟩
          generalize hxx : v / 8388608 % 256 + i = x at HK Hodd Hend ⊢
          generalize hyy : (v % 8388608 + 8388608) / 2 ^ i = y at hy0 Hodd Hend Hup Hdiv ⊢
          have HX := Aside0.mk hxx
          have HY0 := Aside0.mk hy0
          clear hxx hyy hy0
          by_cases hlt : x < 150
          · obtain ⟨kk, rfl⟩ : ∃ m, gk = m + 1 := ⟨gk - 1, by have := HK.out; omega⟩
            have hb : decide ((x : Int) < 150) = true := decide_eq_true (by omega)
            by_cases ho : y % 2 = 0
            · have ho1 : ((y : Int) % 2 == 0) = true := beq_iff_eq.2 (by omega)
              have ho2 : ((y : Int) % 2 != 0) = false := bne_eq_false_iff_eq.2 (by omega)
              go_wp2_with (first | (fail))
              go_roundg kk
              case measure => have := HK.out; omega
              case rel => exact ⟨i + 1, by rw [← Nat.add_assoc, HX.out]; rfl, by rw [Hdiv.out, half_w y HY0.out], ⟨by have := HK.out; have := HX.out; omega⟩, ⟨Hup.out ho⟩, HD⟩
            · have ho1 : ((y : Int) % 2 == 0) = false := beq_eq_false_iff_ne.2 (by omega)
              have ho2 : ((y : Int) % 2 != 0) = true := bne_iff_ne.2 (by omega)
              go_wp2_with (first | (fail))
              go_ret2
              exact ⟨by rw [Hodd.out hlt ho]; rfl, HD.out⟩
          · have hb : decide ((x : Int) < 150) = false := decide_eq_false (by omega)
            have hx150 : x = 150 := by have := HK.out; omega
            have HW := Aside0.mk (neg_w y HY0.out)
            have He := Aside0.mk (Hend.out hx150)
            clear Hodd Hend hx150
            by_cases hs : v ≥ 2147483648
            · have hs1 : decide (2147483648 ≤ (v : Int)) = true := decide_eq_true (by omega)
              rw [decide_eq_true hs] at He
              by_cases hk : y ≤ 1048576
              · have g1 := Aside0.mk (show decide (-1048576 ≤ wrap64 (-(y : Int))) = true by rw [HW.out]; exact decide_eq_true (by omega))
                have g2 := Aside0.mk (show decide (wrap64 (-(y : Int)) ≤ 1048576) = true by rw [HW.out]; exact decide_eq_true (by omega))
                rw [decide_eq_true hk] at He
                clear hk hs hlt
                have g1 := g1.out
                have g2 := g2.out
                go_wp2_with (first | (fail))
                clear g1 g2
                go_ret2
                exact ⟨by rw [He.out]; exact whole_fin y true HY0.out, HD.out⟩
              · have g1 := Aside0.mk (show decide (-1048576 ≤ wrap64 (-(y : Int))) = false by rw [HW.out]; exact decide_eq_false (by omega))
                rw [decide_eq_false hk] at He
                clear hk hs hlt
                have g1 := g1.out
                go_wp2_with (first | (fail))
                clear g1
                go_ret2
                exact ⟨by rw [He.out]; exact whole_fin y false HY0.out, HD.out⟩
            · have hs1 : decide (2147483648 ≤ (v : Int)) = false := decide_eq_false (by omega)
              rw [decide_eq_false hs] at He
              have g1 : decide (-1048576 ≤ (y : Int)) = true := decide_eq_true (by omega)
              have g2 : decide ((y : Int) ≤ 1048576) = decide (y ≤ 1048576) := by rw [decide_eq_decide]; omega
              clear hs hlt
              go_wp2_with (first | (fail))
              go_ret2
              exact ⟨by rw [He.out]; first | rfl | (rw [← g2]; rfl), HD.out⟩
theorem agateref06_whole.calls (a0 : Int) (r1 : Int) (r2 : Bool) (w : World) (h : agateref06_whole.f a0 = some (r1, r2)) :
    Calls Try.prog 62 #[.int .u32 a0] w fun e w' => e = .returned (.tuple #[.int .i64 r1, .bool r2]) ∧ Drawn0 w w' := by
  unfold agateref06_whole.f at h
  split at h
  · rename_i hs
    have h := Option.some.inj h
    have := ref06_whole.calls a0.toNat (by omega) w
    rw [h, show ((a0.toNat : Nat) : Int) = a0 by omega] at this
    exact this
  · cases h

end Go.Proofs.Ytpojamikfcmnoaa.X
