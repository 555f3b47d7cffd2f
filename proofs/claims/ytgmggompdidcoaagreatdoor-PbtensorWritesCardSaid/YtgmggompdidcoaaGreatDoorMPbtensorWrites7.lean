import Derived.Test.YtgmggompdidcoaaGreatDoorMPbtensorWrites2
import Derived.Test.YtgmggompdidcoaaGreatDoorMPbtensorWrites6
import Derived.WalkLawsBesides
import Derived.Deep.RegionHeld3
namespace Go.Proofs.YtgmggompdidcoaaGreatDoor.X
open Go.RowKit Go.Proofs.YtgmggompdidcoaaGreatDoorW.PrintWords Go.Proofs.YtgmggompdidcoaaGreatDoorW.PrintLast Go.Proofs.YtgmggompdidcoaaGreatDoorW.PrintMore
attribute [local go_sem] max2_int min2_int max_two min_two max_three min_three max_four min_four
set_option linter.unusedVariables false
set_option linter.unusedSimpArgs false
theorem F_eq (n : Int) : floatOfInt .f64 n = dI (decide (n < 0)) n.natAbs := rfl
theorem F_int (n : Int) (h0 : -9007199254740992 < n) (h1 : n < 9007199254740992) : IntF (floatOfInt .f64 n) (decide (n < 0)) n.natAbs := dI_int _ _ (by omega)
theorem F_lt (n : Int) : floatOfInt .f64 n < 18446744073709551616 := Ieee.double.nearest_lt _ _ _
theorem part_F (n : Int) (h0 : -9007199254740992 < n) (h1 : n < 9007199254740992) : partE (floatOfInt .f64 n) = decide (-1048576 ≤ n ∧ n ≤ 1048576) := by
  rw [part_int (F_lt n) (F_int n h0 h1)]
  have e : (decide (n.natAbs ≠ 0) || !decide (n < 0)) = true := by
    by_cases h : n < 0
    · rw [decide_eq_true (show n.natAbs ≠ 0 by omega)]; rfl
    · rw [decide_eq_false h]; simp
  rw [e, Bool.and_true, decide_eq_decide]
  omega
theorem F32_word (n : Int) (h : n ≠ 0) (h1 : n.natAbs < 16777216) : floatOfInt .f32 n = (if n < 0 then 2147483648 else 0) + ((n.natAbs.log2 + 126) * 8388608 + n.natAbs * 2 ^ (23 - n.natAbs.log2)) := by
  have hk : n.natAbs ≠ 0 := by omega
  have hl : n.natAbs.log2 ≤ 23 := by
    have := (Nat.log2_lt hk).2 (show n.natAbs < 2 ^ 24 from h1); omega
  have hL := (Nat.log2_eq_iff hk).1 rfl
  show Ieee.single.nearest (decide (n < 0)) n.natAbs 0 = _
  unfold Ieee.Format.nearest
  rw [if_neg hk]
  dsimp only
  have hf : Ieee.single.fractionBits = 23 := rfl
  have hb : Ieee.single.binade = 8388608 := by decide
  have hi : Ieee.single.infRung = 255 * 8388608 := by decide
  have hs : Ieee.single.signWeight = 2147483648 := by decide
  rw [sl, hf, hb, hi]
  have hm : max ((0 : Int) + (n.natAbs.log2 : Int) - ((23 : Nat) : Int)) (-149) = (n.natAbs.log2 : Int) - 23 := by omega
  rw [hm, show ((n.natAbs.log2 : Int) - 23 - 0).toNat = 0 by omega, cut_nought, show (0 - ((n.natAbs.log2 : Int) - 23)).toNat = 23 - n.natAbs.log2 by omega, Nat.shiftLeft_eq, show ((n.natAbs.log2 : Int) - 23 - -149).toNat = n.natAbs.log2 + 126 by omega]
  have hK : n.natAbs * 2 ^ (23 - n.natAbs.log2) < 16777216 := by
    have h2 : n.natAbs * 2 ^ (23 - n.natAbs.log2) < 2 ^ (n.natAbs.log2 + 1) * 2 ^ (23 - n.natAbs.log2) := (Nat.mul_lt_mul_right (Nat.two_pow_pos _)).2 hL.2
    rw [← Nat.pow_add, show n.natAbs.log2 + 1 + (23 - n.natAbs.log2) = 24 by omega] at h2
    exact h2
  rw [Nat.min_eq_left (by omega)]
  unfold Ieee.Format.word
  rw [hs]
  by_cases g : n < 0
  · rw [if_pos (decide_eq_true g), if_pos g]
  · rw [if_neg (by simp; omega), if_neg g, Nat.zero_add]
def wholeS (v : Nat) : Int × Bool :=
  if v = 0 then (0, true)
  else if v / 8388608 % 256 < 127 ∨ v / 8388608 % 256 > 147 then (0, false)
  else if (v % 8388608 + 8388608) % 2 ^ (150 - v / 8388608 % 256) = 0 then (sgn (decide (v ≥ 2147483648)) ((v % 8388608 + 8388608) / 2 ^ (150 - v / 8388608 % 256)), decide ((v % 8388608 + 8388608) / 2 ^ (150 - v / 8388608 % 256) ≤ 1048576))
  else (0, false)
def wideV (v : Nat) : Nat := Ieee.double.write (Ieee.single.read v)
theorem read_single (v : Nat) (hv : v < 4294967296) : Ieee.single.read v =
    (if v % 2147483648 < 8388608 then .number (decide (v ≥ 2147483648)) (v % 2147483648) (-149)
     else if v % 2147483648 < 2139095040 then .number (decide (v ≥ 2147483648)) (8388608 + v % 8388608) (-149 + ((v / 8388608 % 256 - 1 : Nat) : Int))
     else if v % 2147483648 = 2139095040 then .infinity (decide (v ≥ 2147483648))
     else .nan (decide (v ≥ 2147483648)) (v % 2147483648 - 2139095040)) := by
  have hb : Ieee.single.binade = 8388608 := by decide
  have hi : Ieee.single.infRung = 2139095040 := by decide
  have hs : Ieee.single.signWeight = 2147483648 := by decide
  unfold Ieee.Format.read
  dsimp only
  rw [hb, hi, hs, sl]
  have e1 : (v / 2147483648 % 2 == 1) = decide (v ≥ 2147483648) := by
    rw [Bool.eq_iff_iff, beq_iff_eq, decide_eq_true_iff]; omega
  have e2 : v % 2147483648 % 8388608 = v % 8388608 := by omega
  have e3 : v % 2147483648 / 8388608 = v / 8388608 % 256 := by omega
  rw [e1, e2, e3]
theorem wide_number {v : Nat} {s : Bool} {m : Nat} {p : Int} (h : Ieee.single.read v = .number s m p) (hp : p ≤ 104) : Num Ieee.double (wideV v) s (m * 2 ^ (p + 1074).toNat) ∧ wideV v = Ieee.double.nearest s m p := by
  obtain ⟨h1, h2⟩ := read_small h
  rw [sl] at h2
  have hb : Ieee.single.binade = 8388608 := by decide
  rw [hb] at h1
  have e : wideV v = Ieee.double.nearest s m p := by unfold wideV; rw [h]; rfl
  refine ⟨?_, e⟩
  rw [e]
  have hl : m.log2 ≤ 24 := by
    by_cases h0 : m = 0
    · subst h0; decide
    · have := (Nat.log2_lt h0).2 (show m < 2 ^ 24 by omega); omega
  have := num_nearest Ieee.double s m p (by rw [dl]; omega) (by show m < 2 ^ 53; omega) (by
    rw [dl]
    show (p + (m.log2 : Int) - ((52 : Nat) : Int) - (-1074)).toNat + 3 ≤ 2 ^ 11
    omega)
  rw [dl, Int.sub_neg] at this
  exact this
theorem wide_lt (v : Nat) : wideV v < 18446744073709551616 := Ieee.double.write_lt _
theorem Ubig_cut (e : Nat) (h : e ≤ 1074) : Ubig = 2 ^ (1074 - e) * 2 ^ e := by
  have : ∀ E, E = 1074 → Ubig = 2 ^ E := fun E hE => by rw [hE]; exact Ubig_eq
  rw [this (1074 - e + e) (by omega), Nat.pow_add]
theorem part_wide (x : Nat) (hx : x < 18446744073709551616) (s : Bool) (m j : Nat) (hj : j ≤ 1074) (hm : 0 < m) (h : Num Ieee.double x s (m * 2 ^ (1074 - j))) :
    (m % 2 ^ j = 0 → IntF x s (m / 2 ^ j)) ∧ partE x = (decide (m % 2 ^ j = 0) && decide (m / 2 ^ j ≤ 1048576)) := by
  have hU := Ubig_cut j hj
  have hA : 0 < 2 ^ (1074 - j) := Nat.two_pow_pos _
  have hJ : 0 < 2 ^ j := Nat.two_pow_pos _
  have hd : m * 2 ^ (1074 - j) / Ubig = m / 2 ^ j := by
    rw [hU, Nat.mul_comm (2 ^ (1074 - j)), Nat.mul_div_mul_right _ _ hA]
  have hmul : ∀ q, q * Ubig = q * 2 ^ j * 2 ^ (1074 - j) := fun q => by rw [hU, Nat.mul_comm (2 ^ (1074 - j)), Nat.mul_assoc]
  have hdm := Nat.div_add_mod m (2 ^ j)
  rw [Nat.mul_comm] at hdm
  have hI : m % 2 ^ j = 0 → IntF x s (m / 2 ^ j) := by
    intro g
    unfold IntF
    rw [hmul]
    have : m / 2 ^ j * 2 ^ j = m := by omega
    rw [this]; exact h
  refine ⟨hI, ?_⟩
  by_cases g : m % 2 ^ j = 0
  · rw [part_int hx (hI g), decide_eq_true g, Bool.true_and]
    have : m / 2 ^ j ≠ 0 := by
      intro h0
      rw [h0, Nat.zero_mul] at hdm; omega
    rw [decide_eq_true this, Bool.true_or, Bool.and_true]
  · rw [part_num hx h, decide_eq_false g, Bool.false_and, hd, hmul (m / 2 ^ j)]
    have : ¬ (m / 2 ^ j * 2 ^ j * 2 ^ (1074 - j) = m * 2 ^ (1074 - j)) := by
      intro e
      have := Nat.eq_of_mul_eq_mul_right hA e
      omega
    rw [decide_eq_false this, Bool.false_and, Bool.and_false]
theorem whole_wide (v : Nat) (hv : v < 4294967296) (hn : (Ieee.single.read v).isNaN = false) : partE (wideV v) = (wholeS v).2 ∧ ((wholeS v).2 = true → wideV v = floatOfInt .f64 (wholeS v).1 ∧ (-1048576 ≤ (wholeS v).1 ∧ (wholeS v).1 ≤ 1048576) ∧ v = floatOfInt .f32 (wholeS v).1) := by
  have hr := read_single v hv
  have hx := wide_lt v
  by_cases h0 : v = 0
  · subst h0
    have ew : wideV 0 = floatOfInt .f64 0 := by decide +kernel
    have es : wholeS 0 = (0, true) := by unfold wholeS; rw [if_pos rfl]
    rw [es, ew, part_F 0 (by decide) (by decide)]
    refine ⟨by decide, fun _ => ⟨rfl, by decide, by decide +kernel⟩⟩
  by_cases hE : v / 8388608 % 256 < 127 ∨ v / 8388608 % 256 > 147
  · have es : wholeS v = (0, false) := by unfold wholeS; rw [if_neg h0, if_pos hE]
    rw [es]
    refine ⟨?_, fun h => by cases h⟩
    by_cases h1 : v % 2147483648 < 8388608
    · rw [if_pos h1] at hr
      have hw := (wide_number hr (by decide)).1
      obtain ⟨E, hE2⟩ : ∃ E : Nat, E = 149 := ⟨_, rfl⟩
      rw [show ((-149 : Int) + 1074).toNat = 1074 - E by omega] at hw
      by_cases hz : v % 2147483648 = 0
      · rw [hz, Nat.zero_mul] at hw
        rw [part_num hx hw, decide_eq_true (show v ≥ 2147483648 by omega)]
        simp
      · rw [(part_wide _ hx _ _ E (by omega) (by omega) hw).2]
        have : ¬ v % 2147483648 % 2 ^ E = 0 := by
          rw [Nat.mod_eq_of_lt (Nat.lt_of_lt_of_le (show v % 2147483648 < 2 ^ 23 by omega) (Nat.pow_le_pow_right (by decide) (by omega)))]
          exact hz
        rw [decide_eq_false this, Bool.false_and]
    · rw [if_neg h1] at hr
      by_cases h2 : v % 2147483648 < 2139095040
      · rw [if_pos h2] at hr
        have hw := (wide_number hr (by omega)).1
        by_cases h3 : v / 8388608 % 256 < 127
        · rw [show (-149 + ((v / 8388608 % 256 - 1 : Nat) : Int) + 1074).toNat = 1074 - (150 - v / 8388608 % 256) by omega] at hw
          rw [(part_wide _ hx _ _ (150 - v / 8388608 % 256) (by omega) (by omega) hw).2]
          have : ¬ (8388608 + v % 8388608) % 2 ^ (150 - v / 8388608 % 256) = 0 := by
            rw [Nat.mod_eq_of_lt (Nat.lt_of_lt_of_le (show 8388608 + v % 8388608 < 2 ^ 24 by omega) (Nat.pow_le_pow_right (by decide) (by omega)))]
            omega
          rw [decide_eq_false this, Bool.false_and]
        · have hbig : ¬ ((8388608 + v % 8388608) * 2 ^ (-149 + ((v / 8388608 % 256 - 1 : Nat) : Int) + 1074).toNat ≤ 1048576 * Ubig) := by
            obtain ⟨E, hE2⟩ : ∃ E : Nat, E = 2 := ⟨_, rfl⟩
            have hU := Ubig_cut E (by omega)
            have hle : 2 ^ (1074 - E) ≤ 2 ^ (-149 + ((v / 8388608 % 256 - 1 : Nat) : Int) + 1074).toNat := Nat.pow_le_pow_right (by decide) (by omega)
            have hA : 0 < 2 ^ (1074 - E) := Nat.two_pow_pos _
            generalize 2 ^ (1074 - E) = A at hU hle hA
            rw [hE2] at hU
            generalize 2 ^ (-149 + ((v / 8388608 % 256 - 1 : Nat) : Int) + 1074).toNat = B at hle
            have h5 : 8388608 * A ≤ (8388608 + v % 8388608) * B := Nat.mul_le_mul (by omega) hle
            rw [hU]; omega
          rw [part_num hx hw, decide_eq_false hbig, Bool.false_and]
      · rw [if_neg h2] at hr
        by_cases h3 : v % 2147483648 = 2139095040
        · rw [if_pos h3] at hr
          have hi : Ieee.double.read (wideV v) = .infinity (decide (v ≥ 2147483648)) := by
            unfold wideV; rw [hr]
            generalize decide (v ≥ 2147483648) = s
            cases s <;> decide +kernel
          unfold partE
          rw [order_inf hi cN, order_inf hi cP]
          generalize decide (v ≥ 2147483648) = s
          cases s <;> rfl
        · rw [if_neg h3] at hr
          rw [hr] at hn; cases hn
  · have h1 : ¬ v % 2147483648 < 8388608 := by omega
    have h2 : v % 2147483648 < 2139095040 := by omega
    rw [if_neg h1, if_pos h2] at hr
    obtain ⟨hw, ew⟩ := wide_number hr (by omega)
    rw [show (-149 + ((v / 8388608 % 256 - 1 : Nat) : Int) + 1074).toNat = 1074 - (150 - v / 8388608 % 256) by omega, Nat.add_comm 8388608] at hw
    obtain ⟨p1, p2⟩ := part_wide _ hx _ _ (150 - v / 8388608 % 256) (by omega) (by omega) hw
    by_cases g : (v % 8388608 + 8388608) % 2 ^ (150 - v / 8388608 % 256) = 0
    · have es : wholeS v = (sgn (decide (v ≥ 2147483648)) ((v % 8388608 + 8388608) / 2 ^ (150 - v / 8388608 % 256)), decide ((v % 8388608 + 8388608) / 2 ^ (150 - v / 8388608 % 256) ≤ 1048576)) := by
        unfold wholeS; rw [if_neg h0, if_neg hE, if_pos g]
      rw [es, p2, decide_eq_true g, Bool.true_and]
      refine ⟨rfl, fun hk => ?_⟩
      have hk : (v % 8388608 + 8388608) / 2 ^ (150 - v / 8388608 % 256) ≤ 1048576 := of_decide_eq_true hk
      have hi := p1 g
      have hdm := Nat.div_add_mod (v % 8388608 + 8388608) (2 ^ (150 - v / 8388608 % 256))
      rw [g, Nat.add_zero, Nat.mul_comm] at hdm
      generalize hK : (v % 8388608 + 8388608) / 2 ^ (150 - v / 8388608 % 256) = K at hk hi hdm ⊢
      have hK0 : K ≠ 0 := by
        intro h; rw [h, Nat.zero_mul] at hdm; omega
      have hsg : ∀ s : Bool, decide (sgn s K < 0) = s ∧ (sgn s K).natAbs = K := by
        intro s
        refine ⟨?_, sgn_abs s K⟩
        unfold sgn; cases s <;> simp <;> omega
      refine ⟨?_, ?_, ?_⟩
      · rw [F_eq, (hsg _).1, (hsg _).2, ew]
        refine dI_of (by omega) ?_
        have hU := Ubig_cut (150 - v / 8388608 % 256) (by omega)
        rw [show (-149 + ((v / 8388608 % 256 - 1 : Nat) : Int) + 1074).toNat = 1074 - (150 - v / 8388608 % 256) by omega, hU, Nat.mul_comm (2 ^ (1074 - _)), ← Nat.mul_assoc, hdm, Nat.add_comm]
      · unfold sgn; split <;> omega
      · have hn0 : sgn (decide (v ≥ 2147483648)) K ≠ 0 := by
          unfold sgn; split <;> omega
        rw [F32_word _ hn0 (by rw [sgn_abs]; omega), sgn_abs]
        have hlog : K.log2 = 23 - (150 - v / 8388608 % 256) := by
          rw [Nat.log2_eq_iff hK0]
          have hJ : 0 < 2 ^ (150 - v / 8388608 % 256) := Nat.two_pow_pos _
          constructor
          · refine Nat.le_of_mul_le_mul_right ?_ hJ
            rw [hdm, ← Nat.pow_add, show 23 - (150 - v / 8388608 % 256) + (150 - v / 8388608 % 256) = 23 by omega]
            omega
          · refine Nat.lt_of_mul_lt_mul_right (a := 2 ^ (150 - v / 8388608 % 256)) ?_
            rw [hdm, ← Nat.pow_add, show 23 - (150 - v / 8388608 % 256) + 1 + (150 - v / 8388608 % 256) = 24 by omega]
            omega
        rw [hlog, show 23 - (23 - (150 - v / 8388608 % 256)) = 150 - v / 8388608 % 256 by omega, hdm]
        have hneg : (sgn (decide (v ≥ 2147483648)) K < 0) ↔ v ≥ 2147483648 := by
          have := (hsg (decide (v ≥ 2147483648))).1
          rwa [decide_eq_decide] at this
        by_cases hs : v ≥ 2147483648
        · rw [if_pos (hneg.2 hs)]; omega
        · rw [if_neg (fun h => hs (hneg.1 h))]; omega
    · have es : wholeS v = (0, false) := by unfold wholeS; rw [if_neg h0, if_neg hE, if_neg g]
      rw [es, p2, decide_eq_false g]
      exact ⟨rfl, fun h => by cases h⟩
def readR (b : ByteArray) : Int × Int × Int :=
  if b.size < 8 then (0, 0, 1) else if b.size > 8 then (0, 0, 2)
  else if ((wholeS (wd b)).2 && (wholeS (wd (b.extract 4 b.size))).2) = true then ((wholeS (wd b)).1, (wholeS (wd (b.extract 4 b.size))).1, 0) else (0, 0, 17)
theorem nan_word (t : Nat) : ∃ n, Ieee.double.read ((t % 2) * 2 ^ 63 + 0x7ff0000000000000 + 1 + (t / 2) % (2 ^ 52 - 1)) = .nan ((t % 2) == 1) n := by
  have hb : Ieee.double.binade = 4503599627370496 := by decide
  have hi : Ieee.double.infRung = 9218868437227405312 := by decide
  have hs : Ieee.double.signWeight = 9223372036854775808 := by decide
  have e1 : (2 : Nat) ^ 63 = 9223372036854775808 := by decide
  have e2 : (2 : Nat) ^ 52 - 1 = 4503599627370495 := by decide
  rw [e1, e2]
  have hr : t / 2 % 4503599627370495 < 4503599627370495 := Nat.mod_lt _ (by decide)
  have ht : t % 2 < 2 := Nat.mod_lt _ (by decide)
  generalize t / 2 % 4503599627370495 = r at hr
  generalize t % 2 = s at ht
  unfold Ieee.Format.read
  dsimp only
  rw [hb, hi, hs]
  have d1 : (s * 9223372036854775808 + 9218868437227405312 + 1 + r) / 9223372036854775808 % 2 = s := by omega
  have d2 : (s * 9223372036854775808 + 9218868437227405312 + 1 + r) % 9223372036854775808 = 9218868437227405312 + 1 + r := by omega
  rw [d1, d2, if_neg (by omega), if_neg (by omega), if_neg (by omega)]
  exact ⟨_, rfl⟩
theorem nan_part (x : Nat) (h : ∃ s n, Ieee.double.read x = .nan s n) : partE x = false := by
  obtain ⟨s, n, h⟩ := h
  unfold partE
  rw [order_nan h]; rfl
theorem whole_nan (v : Nat) (hv : v < 4294967296) (hn : (Ieee.single.read v).isNaN = true) : (wholeS v).2 = false := by
  have hr := read_single v hv
  by_cases h1 : v % 2147483648 < 8388608
  · rw [if_pos h1] at hr; rw [hr] at hn; cases hn
  · rw [if_neg h1] at hr
    by_cases h2 : v % 2147483648 < 2139095040
    · rw [if_pos h2] at hr; rw [hr] at hn; cases hn
    · unfold wholeS
      rw [if_neg (by omega), if_pos (Or.inr (by omega))]
theorem wide_run (v : Nat) (hv : v < 4294967296) : ∃ (g : World → Nat) (k : Nat), (∀ w, partE (g w) = (wholeS v).2) ∧ ((wholeS v).2 = true → ∀ w, g w = floatOfInt .f64 (wholeS v).1) ∧ ∀ w, (convert 170 169 (.float .f32 v)).run Tryz.prog w = .ok (.float .f64 (g w)) (w.drewN k) := by
  cases hn : (Ieee.single.read v).isNaN with
  | false =>
    obtain ⟨h1, h2⟩ := whole_wide v hv hn
    refine ⟨fun _ => wideV v, 0, fun _ => h1, fun h _ => (h2 h).1, fun w => ?_⟩
    refine run_convert_float_float w 170 169 .f32 .f64 v (wideV v) (by rw [Tryz.underlying170]; rfl) Tryz.underlying169 ?_
    unfold floatToFloatBits
    rw [if_neg (by decide)]
    have ed : FloatKind.f32.decode v = Ieee.single.read v := rfl
    rw [ed]
    cases hr : Ieee.single.read v with
    | nan s n => rw [hr] at hn; cases hn
    | infinity s => show some (Ieee.double.write (.infinity s)) = some (wideV v); unfold wideV; rw [hr]
    | number s m p =>
      have hp : p ≤ 104 := by
        have h3 := read_single v hv
        rw [hr] at h3
        split at h3
        · cases h3; decide
        · split at h3
          · cases h3; omega
          · split at h3 <;> cases h3
      obtain ⟨⟨m', p', e, _, _⟩, ew⟩ := wide_number hr hp
      have e3 : FloatKind.f64.encode (.number s m p) = wideV v := ew.symm
      have e4 : FloatKind.f64.decode (wideV v) = .number s m' p' := e
      show (if (FloatKind.f64.decode (FloatKind.f64.encode (.number s m p))).isInfinity then none else some (FloatKind.f64.encode (.number s m p))) = some (wideV v)
      rw [e3, e4]; rfl
  | true =>
    refine ⟨fun w => (Question.nanConv .f64 v).cut (w.tape w.drawn (Question.nanConv .f64 v)), 1, fun w => ?_, fun h => ?_, fun w => ?_⟩
    · rw [whole_nan v hv hn]
      obtain ⟨n, h⟩ := nan_word (w.tape w.drawn (Question.nanConv .f64 v))
      exact nan_part _ ⟨_, n, h⟩
    · rw [whole_nan v hv hn] at h; cases h
    · have ed : FloatKind.f32.decode v = Ieee.single.read v := rfl
      cases hr : Ieee.single.read v with
      | infinity s => rw [hr] at hn; cases hn
      | number s m p => rw [hr] at hn; cases hn
      | nan s n =>
        have hs : Tryz.prog.underlying 170 = some (.float .f32) := Tryz.underlying170
        simp [convert, run_underlying hs, run_underlying Tryz.underlying169, Conv.floatToFloat, ed, hr, Question.forced, World.drewN]

theorem F_zero : floatOfInt .f64 0 = 0 := by decide +kernel
theorem bits_ok (b : ByteArray) (h : 4 ≤ b.size) : gauss_bits_s.f b = some (wd b : Int) := if_pos h
def readF (b : ByteArray) : Nat × Nat × Int := (floatOfInt .f64 (readR b).1, floatOfInt .f64 (readR b).2.1, (readR b).2.2)
theorem readF_short (b : ByteArray) (h : b.size < 8) : readF b = (0, 0, 1) := by unfold readF readR; rw [if_pos h]; simp only [F_zero]
theorem readF_long (b : ByteArray) (h : b.size > 8) : readF b = (0, 0, 2) := by unfold readF readR; rw [if_neg (by omega), if_pos h]; simp only [F_zero]
theorem readF_no (b : ByteArray) (h : b.size = 8) (h2 : ((wholeS (wd b)).2 && (wholeS (wd (b.extract 4 b.size))).2) = false) : readF b = (0, 0, 17) := by
  unfold readF readR; rw [if_neg (by omega), if_neg (by omega), h2, if_neg (by simp)]; simp only [F_zero]
theorem readF_yes (b : ByteArray) (h : b.size = 8) (h2 : ((wholeS (wd b)).2 && (wholeS (wd (b.extract 4 b.size))).2) = true) : readF b = (floatOfInt .f64 (wholeS (wd b)).1, floatOfInt .f64 (wholeS (wd (b.extract 4 b.size))).1, 0) := by
  unfold readF readR; rw [if_neg (by omega), if_neg (by omega), if_pos h2]
theorem may_one (g : Nat) (W : World) (x y : Nat) (hg : g = W.heap.size) :
    Calls Tryz.prog 103 #[.slice (some ⟨g, 0, none⟩) 1 1] (W.alloc (Obj.cells #[.complex .f64 x y] 147)) fun e w' => e = .returned (.bool (partE x && partE y)) ∧ w' = W.alloc (Obj.cells #[.complex .f64 x y] 147) := by
  subst hg
  have h := gauss_may.calls ⟨W.heap.size, 0, none⟩ 1 [(x, y)] _ (Nat.le_refl _) (by simp) (cells_one W x y 147)
  have e : mayE [(x, y)] = (partE x && partE y) := by unfold mayE; rw [List.all_cons, List.all_nil, Bool.and_true]
  rw [e] at h
  exact h
structure RB (w0 w : World) : Prop where
  b : Below w0.heap.size w0 w
theorem bits_keep {w0 w : World} (h : RB w0 w) (b : ByteArray) (r : Int) (hf : gauss_bits_s.f b = some r) :
    Calls Tryz.prog 102 #[.string b] w fun e w' => e = .returned (.int .u32 r) ∧ RB w0 w' := by
  refine (gauss_bits_s.calls b r w hf).mono ?_
  rintro e w' ⟨he, hb⟩
  exact ⟨he, ⟨below_step h.b hb.below⟩⟩
set_option maxHeartbeats 8000000 in
set_option maxRecDepth 100000 in
theorem gauss_Read.calls (b : ByteArray) (w : World) :
    Calls Tryz.prog 91 #[.string b] w fun e w' => e = .returned (.tuple #[.complex .f64 (readF b).1 (readF b).2.1, .int .i64 (readF b).2.2]) ∧ Below w.heap.size w w' := by
  by_cases h1 : b.size < 8
  · have h1b : decide ((b.size : Int) < 8) = true := decide_eq_true (by omega)
    rw [readF_short b h1]
    clear h1
    go_enter Tryz.func91, Tryz.ntmps91
    go_wp2
    go_ret2
    exact ⟨rfl, Below.refl _ _⟩
  · have h1b : decide ((b.size : Int) < 8) = false := decide_eq_false (by omega)
    by_cases h2 : b.size > 8
    · have h2b : decide (8 < (b.size : Int)) = true := decide_eq_true (by omega)
      rw [readF_long b h2]
      clear h1 h2
      go_enter Tryz.func91, Tryz.ntmps91
      go_wp2
      go_ret2
      exact ⟨rfl, Below.refl _ _⟩
    · have h2b : decide (8 < (b.size : Int)) = false := decide_eq_false (by omega)
      have h8 : b.size = 8 := by omega
      have hw1 := wd_lt b
      have e8 : b.extract 4 b.size = b.extract 4 8 := by rw [h8]
      have hw2 := wd_lt (b.extract 4 8)
      obtain ⟨g1, n1, p1, f1, r1⟩ := wide_run (wd b) hw1
      obtain ⟨g2, n2, p2, f2, r2⟩ := wide_run (wd (b.extract 4 8)) hw2
      have hno := readF_no b h8
      have hyes := readF_yes b h8
      rw [e8] at hno hyes
      have Hno := Aside0.mk hno
      have Hyes := Aside0.mk hyes
      clear hno hyes
      have HB1 := Aside0.mk (bits_ok b (by omega))
      have HB2 := Aside0.mk (bits_ok (b.extract 4 8) (by rw [ByteArray.size_extract]; omega))
      have q1 := float32frombits_run (wd b : Int)
      have q2 := float32frombits_run (wd (b.extract 4 8) : Int)
      rw [Int.toNat_natCast] at q1 q2
      have P1 := Aside0.mk p1
      have P2 := Aside0.mk p2
      have F1 := Aside0.mk f1
      have F2 := Aside0.mk f2
      clear p1 p2 f1 f2 h1 h2 hw1 hw2 e8
      have h4 : (4 ≤ (b.size : Int)) = True := eq_true (by omega)
      have h4n : (4 ≤ b.size) = True := eq_true (by omega)
      have h4s : ((b.size : Int) < 4) = False := eq_false (by omega)
      go_enter Tryz.func91, Tryz.ntmps91
      have HR : RB w w := ⟨Below.refl _ _⟩
      have hdr : ∀ w' n, RB w w' → RB w (w'.drewN n) := fun w' n h => ⟨pw_below_drewN h.b n⟩
      have hdr1 : ∀ w', RB w w' → RB w w'.drew := fun w' h => ⟨below_drew1 h.b⟩
      go_wp2_with (first | (fail))
      refine wp_region_noPanic ?_
      refine wp_region_held_drew (S := fun w' => RB w w') (by kernel_rfl) ?_ (fun hHeld => ?_)
      · exact hdr1 _ HR
      refine' wpAnyH_take (i := 0) (oi := _) (v := ?_) rfl (by kernel_rfl) (by kernel_rfl) (by kernel_rfl) (fun _ _ _ h => h) (Or.inl ⟨by rfl, ?_⟩) (by assumption) ?_
      rotate_left
      · intro w hSw; (try dsimp only at hSw); go_simp; first | done | with_reducible rfl
      try simp only [Act.put, List.setIfInBounds_toArray, List.set_cons_zero, List.set_cons_succ]
      refine' wpAnyH_take (i := 4) (oi := _) (v := ?_) rfl (by kernel_rfl) (by kernel_rfl) (by kernel_rfl) (fun _ _ _ h => h) (Or.inl ⟨by rfl, ?_⟩) (by assumption) ?_
      rotate_left
      · intro w hSw; (try dsimp only at hSw); go_simp; first | done | with_reducible rfl
      try simp only [Act.put, List.setIfInBounds_toArray, List.set_cons_zero, List.set_cons_succ]
      refine' wpAnyH_take (i := 5) (oi := _) (v := ?_) rfl (by kernel_rfl) (by kernel_rfl) (by kernel_rfl) (fun _ _ _ h => h) (Or.inl ⟨by rfl, ?_⟩) (by assumption) ?_
      rotate_left
      · intro w hSw; (try dsimp only at hSw); go_simp; first | done | with_reducible rfl
      try simp only [Act.put, List.setIfInBounds_toArray, List.set_cons_zero, List.set_cons_succ]
      refine wpAnyH_ready (rs := [1]) (by kernel_rfl) (by simp) ?_
      refine AllReadyH.cons (o := _) rfl (fun K hK => ?_) ?_
      · go_simp
        go_at_call 102
        refine (bits_keep (by assumption) b _ HB1.out).mono ?_
        rintro e w5 ⟨rfl, HR⟩
        go_wp2_with fail
        refine hK.out _ _ ?_ (fun hHeld => ?_)
        · (try dsimp only); first | assumption | go_keep
        clear hK K
        try simp only [Act.put, List.setIfInBounds_toArray, List.set_cons_zero, List.set_cons_succ]
        refine wpAnyH_ready (rs := [2]) (by kernel_rfl) (by simp) ?_
        refine AllReadyH.cons (o := _) rfl (fun K hK => ?_) ?_
        · go_simp
          refine hK.out _ _ ?_ (fun hHeld => ?_)
          · (try dsimp only); first | assumption | go_keep
          clear hK K
          try simp only [Act.put, List.setIfInBounds_toArray, List.set_cons_zero, List.set_cons_succ]
          refine wpAnyH_ready (rs := [3, 6]) (by kernel_rfl) (by simp) ?_
          refine AllReadyH.cons (o := _) rfl (fun K hK => ?_) ?_
          · go_simp
            refine hK.out _ _ ?_ (fun hHeld => ?_)
            · (try dsimp only); first | assumption | go_keep
            clear hK K
            try simp only [Act.put, List.setIfInBounds_toArray, List.set_cons_zero, List.set_cons_succ]
            refine wpAnyH_ready (rs := [6]) (by kernel_rfl) (by simp) ?_
            refine AllReadyH.cons (o := _) rfl (fun K hK => ?_) ?_
            · go_simp
              go_at_call 102
              refine (bits_keep (by assumption) (b.extract 4 8) _ HB2.out).mono ?_
              rintro e w5 ⟨rfl, HR⟩
              go_wp2_with fail
              refine hK.out _ _ ?_ (fun hHeld => ?_)
              · (try dsimp only); first | assumption | go_keep
              clear hK K
              try simp only [Act.put, List.setIfInBounds_toArray, List.set_cons_zero, List.set_cons_succ]
              refine wpAnyH_ready (rs := [7]) (by kernel_rfl) (by simp) ?_
              refine AllReadyH.cons (o := _) rfl (fun K hK => ?_) ?_
              · go_simp
                refine hK.out _ _ ?_ (fun hHeld => ?_)
                · (try dsimp only); first | assumption | go_keep
                clear hK K
                try simp only [Act.put, List.setIfInBounds_toArray, List.set_cons_zero, List.set_cons_succ]
                refine wpAnyH_ready (rs := [8]) (by kernel_rfl) (by simp) ?_
                refine AllReadyH.cons (o := _) rfl (fun K hK => ?_) ?_
                · go_simp
                  refine hK.out _ _ ?_ (fun hHeld => ?_)
                  · (try dsimp only); first | assumption | go_keep
                  clear hK K
                  try simp only [Act.put, List.setIfInBounds_toArray, List.set_cons_zero, List.set_cons_succ]
                  refine wpAnyH_ready (rs := [9]) (by kernel_rfl) (by simp) ?_
                  refine AllReadyH.cons (o := _) rfl (fun K hK => ?_) ?_
                  · go_simp
                    refine hK.out _ _ ?_ (fun hHeld => ?_)
                    · (try dsimp only); first | assumption | go_keep
                    clear hK K
                    try simp only [Act.put, List.setIfInBounds_toArray, List.set_cons_zero, List.set_cons_succ]
                    refine wpAnyH_ready (rs := [10]) (by kernel_rfl) (by simp) ?_
                    refine AllReadyH.cons (o := _) rfl (fun K hK => ?_) ?_
                    · go_simp
                      refine hK.out _ _ ?_ (fun hHeld => ?_)
                      · (try dsimp only); first | assumption | go_keep
                      clear hK K
                      try simp only [Act.put, List.setIfInBounds_toArray, List.set_cons_zero, List.set_cons_succ]
                      refine wpAnyH_done (by kernel_rfl) ?_ _
                      refine NoPanic.normal ?_
                      clear r1 r2 q1 q2
                      go_wp2_with (first | (fail))
                      refine (may_one _ _ _ _ rfl).mono ?_
                      rintro e wm ⟨rfl, rfl⟩
                      rw [P1.out, P2.out]
                      cases hm : ((wholeS (wd b)).2 && (wholeS (wd (b.extract 4 8))).2) with
                      | false =>
                        go_wp2_with (first | (fail))
                        go_ret2
                        exact ⟨by rw [Hno.out hm]; rfl, by repeat (first | exact HR.b | apply below_alloc | apply pw_below_drewN | apply below_drew1)⟩
                      | true =>
                        have hm2 := Bool.and_eq_true _ _ ▸ hm
                        go_wp2_with (first | (fail))
                        go_ret2
                        exact ⟨by rw [Hyes.out hm]; show Ending.returned (.tuple #[.complex .f64 (g1 _) (g2 _), .int .i64 0]) = _; rw [F1.out hm2.1, F2.out hm2.2], by repeat (first | exact HR.b | apply below_alloc | apply pw_below_drewN | apply below_drew1)⟩
                    exact AllReadyH.nil
                  exact AllReadyH.nil
                exact AllReadyH.nil
              exact AllReadyH.nil
            exact AllReadyH.nil
          refine AllReadyH.cons (o := _) rfl (fun K hK => ?_) ?_
          · go_simp
            go_at_call 102
            refine (bits_keep (by assumption) (b.extract 4 8) _ HB2.out).mono ?_
            rintro e w5 ⟨rfl, HR⟩
            go_wp2_with fail
            refine hK.out _ _ ?_ (fun hHeld => ?_)
            · (try dsimp only); first | assumption | go_keep
            clear hK K
            try simp only [Act.put, List.setIfInBounds_toArray, List.set_cons_zero, List.set_cons_succ]
            refine wpAnyH_ready (rs := [3, 7]) (by kernel_rfl) (by simp) ?_
            refine AllReadyH.cons (o := _) rfl (fun K hK => ?_) ?_
            · go_simp
              refine hK.out _ _ ?_ (fun hHeld => ?_)
              · (try dsimp only); first | assumption | go_keep
              clear hK K
              try simp only [Act.put, List.setIfInBounds_toArray, List.set_cons_zero, List.set_cons_succ]
              refine wpAnyH_ready (rs := [7]) (by kernel_rfl) (by simp) ?_
              refine AllReadyH.cons (o := _) rfl (fun K hK => ?_) ?_
              · go_simp
                refine hK.out _ _ ?_ (fun hHeld => ?_)
                · (try dsimp only); first | assumption | go_keep
                clear hK K
                try simp only [Act.put, List.setIfInBounds_toArray, List.set_cons_zero, List.set_cons_succ]
                refine wpAnyH_ready (rs := [8]) (by kernel_rfl) (by simp) ?_
                refine AllReadyH.cons (o := _) rfl (fun K hK => ?_) ?_
                · go_simp
                  refine hK.out _ _ ?_ (fun hHeld => ?_)
                  · (try dsimp only); first | assumption | go_keep
                  clear hK K
                  try simp only [Act.put, List.setIfInBounds_toArray, List.set_cons_zero, List.set_cons_succ]
                  refine wpAnyH_ready (rs := [9]) (by kernel_rfl) (by simp) ?_
                  refine AllReadyH.cons (o := _) rfl (fun K hK => ?_) ?_
                  · go_simp
                    refine hK.out _ _ ?_ (fun hHeld => ?_)
                    · (try dsimp only); first | assumption | go_keep
                    clear hK K
                    try simp only [Act.put, List.setIfInBounds_toArray, List.set_cons_zero, List.set_cons_succ]
                    refine wpAnyH_ready (rs := [10]) (by kernel_rfl) (by simp) ?_
                    refine AllReadyH.cons (o := _) rfl (fun K hK => ?_) ?_
                    · go_simp
                      refine hK.out _ _ ?_ (fun hHeld => ?_)
                      · (try dsimp only); first | assumption | go_keep
                      clear hK K
                      try simp only [Act.put, List.setIfInBounds_toArray, List.set_cons_zero, List.set_cons_succ]
                      refine wpAnyH_done (by kernel_rfl) ?_ _
                      refine NoPanic.normal ?_
                      clear r1 r2 q1 q2
                      go_wp2_with (first | (fail))
                      refine (may_one _ _ _ _ rfl).mono ?_
                      rintro e wm ⟨rfl, rfl⟩
                      rw [P1.out, P2.out]
                      cases hm : ((wholeS (wd b)).2 && (wholeS (wd (b.extract 4 8))).2) with
                      | false =>
                        go_wp2_with (first | (fail))
                        go_ret2
                        exact ⟨by rw [Hno.out hm]; rfl, by repeat (first | exact HR.b | apply below_alloc | apply pw_below_drewN | apply below_drew1)⟩
                      | true =>
                        have hm2 := Bool.and_eq_true _ _ ▸ hm
                        go_wp2_with (first | (fail))
                        go_ret2
                        exact ⟨by rw [Hyes.out hm]; show Ending.returned (.tuple #[.complex .f64 (g1 _) (g2 _), .int .i64 0]) = _; rw [F1.out hm2.1, F2.out hm2.2], by repeat (first | exact HR.b | apply below_alloc | apply pw_below_drewN | apply below_drew1)⟩
                    exact AllReadyH.nil
                  exact AllReadyH.nil
                exact AllReadyH.nil
              exact AllReadyH.nil
            refine AllReadyH.cons (o := _) rfl (fun K hK => ?_) ?_
            · go_simp
              refine hK.out _ _ ?_ (fun hHeld => ?_)
              · (try dsimp only); first | assumption | go_keep
              clear hK K
              try simp only [Act.put, List.setIfInBounds_toArray, List.set_cons_zero, List.set_cons_succ]
              refine wpAnyH_ready (rs := [3, 8]) (by kernel_rfl) (by simp) ?_
              refine AllReadyH.cons (o := _) rfl (fun K hK => ?_) ?_
              · go_simp
                refine hK.out _ _ ?_ (fun hHeld => ?_)
                · (try dsimp only); first | assumption | go_keep
                clear hK K
                try simp only [Act.put, List.setIfInBounds_toArray, List.set_cons_zero, List.set_cons_succ]
                refine wpAnyH_ready (rs := [8]) (by kernel_rfl) (by simp) ?_
                refine AllReadyH.cons (o := _) rfl (fun K hK => ?_) ?_
                · go_simp
                  refine hK.out _ _ ?_ (fun hHeld => ?_)
                  · (try dsimp only); first | assumption | go_keep
                  clear hK K
                  try simp only [Act.put, List.setIfInBounds_toArray, List.set_cons_zero, List.set_cons_succ]
                  refine wpAnyH_ready (rs := [9]) (by kernel_rfl) (by simp) ?_
                  refine AllReadyH.cons (o := _) rfl (fun K hK => ?_) ?_
                  · go_simp
                    refine hK.out _ _ ?_ (fun hHeld => ?_)
                    · (try dsimp only); first | assumption | go_keep
                    clear hK K
                    try simp only [Act.put, List.setIfInBounds_toArray, List.set_cons_zero, List.set_cons_succ]
                    refine wpAnyH_ready (rs := [10]) (by kernel_rfl) (by simp) ?_
                    refine AllReadyH.cons (o := _) rfl (fun K hK => ?_) ?_
                    · go_simp
                      refine hK.out _ _ ?_ (fun hHeld => ?_)
                      · (try dsimp only); first | assumption | go_keep
                      clear hK K
                      try simp only [Act.put, List.setIfInBounds_toArray, List.set_cons_zero, List.set_cons_succ]
                      refine wpAnyH_done (by kernel_rfl) ?_ _
                      refine NoPanic.normal ?_
                      clear r1 r2 q1 q2
                      go_wp2_with (first | (fail))
                      refine (may_one _ _ _ _ rfl).mono ?_
                      rintro e wm ⟨rfl, rfl⟩
                      rw [P1.out, P2.out]
                      cases hm : ((wholeS (wd b)).2 && (wholeS (wd (b.extract 4 8))).2) with
                      | false =>
                        go_wp2_with (first | (fail))
                        go_ret2
                        exact ⟨by rw [Hno.out hm]; rfl, by repeat (first | exact HR.b | apply below_alloc | apply pw_below_drewN | apply below_drew1)⟩
                      | true =>
                        have hm2 := Bool.and_eq_true _ _ ▸ hm
                        go_wp2_with (first | (fail))
                        go_ret2
                        exact ⟨by rw [Hyes.out hm]; show Ending.returned (.tuple #[.complex .f64 (g1 _) (g2 _), .int .i64 0]) = _; rw [F1.out hm2.1, F2.out hm2.2], by repeat (first | exact HR.b | apply below_alloc | apply pw_below_drewN | apply below_drew1)⟩
                    exact AllReadyH.nil
                  exact AllReadyH.nil
                exact AllReadyH.nil
              refine AllReadyH.cons (o := _) rfl (fun K hK => ?_) ?_
              · go_simp
                refine hK.out _ _ ?_ (fun hHeld => ?_)
                · (try dsimp only); first | assumption | go_keep
                clear hK K
                try simp only [Act.put, List.setIfInBounds_toArray, List.set_cons_zero, List.set_cons_succ]
                refine wpAnyH_ready (rs := [3]) (by kernel_rfl) (by simp) ?_
                refine AllReadyH.cons (o := _) rfl (fun K hK => ?_) ?_
                · go_simp
                  refine hK.out _ _ ?_ (fun hHeld => ?_)
                  · (try dsimp only); first | assumption | go_keep
                  clear hK K
                  try simp only [Act.put, List.setIfInBounds_toArray, List.set_cons_zero, List.set_cons_succ]
                  refine wpAnyH_ready (rs := [9]) (by kernel_rfl) (by simp) ?_
                  refine AllReadyH.cons (o := _) rfl (fun K hK => ?_) ?_
                  · go_simp
                    refine hK.out _ _ ?_ (fun hHeld => ?_)
                    · (try dsimp only); first | assumption | go_keep
                    clear hK K
                    try simp only [Act.put, List.setIfInBounds_toArray, List.set_cons_zero, List.set_cons_succ]
                    refine wpAnyH_ready (rs := [10]) (by kernel_rfl) (by simp) ?_
                    refine AllReadyH.cons (o := _) rfl (fun K hK => ?_) ?_
                    · go_simp
                      refine hK.out _ _ ?_ (fun hHeld => ?_)
                      · (try dsimp only); first | assumption | go_keep
                      clear hK K
                      try simp only [Act.put, List.setIfInBounds_toArray, List.set_cons_zero, List.set_cons_succ]
                      refine wpAnyH_done (by kernel_rfl) ?_ _
                      refine NoPanic.normal ?_
                      clear r1 r2 q1 q2
                      go_wp2_with (first | (fail))
                      refine (may_one _ _ _ _ rfl).mono ?_
                      rintro e wm ⟨rfl, rfl⟩
                      rw [P1.out, P2.out]
                      cases hm : ((wholeS (wd b)).2 && (wholeS (wd (b.extract 4 8))).2) with
                      | false =>
                        go_wp2_with (first | (fail))
                        go_ret2
                        exact ⟨by rw [Hno.out hm]; rfl, by repeat (first | exact HR.b | apply below_alloc | apply pw_below_drewN | apply below_drew1)⟩
                      | true =>
                        have hm2 := Bool.and_eq_true _ _ ▸ hm
                        go_wp2_with (first | (fail))
                        go_ret2
                        exact ⟨by rw [Hyes.out hm]; show Ending.returned (.tuple #[.complex .f64 (g1 _) (g2 _), .int .i64 0]) = _; rw [F1.out hm2.1, F2.out hm2.2], by repeat (first | exact HR.b | apply below_alloc | apply pw_below_drewN | apply below_drew1)⟩
                    exact AllReadyH.nil
                  exact AllReadyH.nil
                exact AllReadyH.nil
              exact AllReadyH.nil
            exact AllReadyH.nil
          exact AllReadyH.nil
        exact AllReadyH.nil
      exact AllReadyH.nil
def tensor_Tensor_value.f (a0_0 : ByteArray) (a0_1 : Int) (l0_2 : List Int) (a0_3 a1 : ByteArray) : Option Bool := if a0_1 = 9 then (if 0 < a1.size then some (decide (bt a1 0 ≤ 1)) else none) else if a0_1 = 14 then some ((readR a1).2.2 == 0) else some true
set_option maxHeartbeats 8000000 in
set_option maxRecDepth 100000 in
theorem tensor_Tensor_value.calls (a0_0 : ByteArray) (a0_1 : Int) (A0_2 : Option Addr) (c0_2 : Nat) (l0_2 : List Int) (a0_3 : ByteArray) (a1 : ByteArray) (r : Bool) (w : World) (hr0_2 : Kd.C (Kd.int .i64) w A0_2 l0_2.length l0_2) (hc0_2 : l0_2.length ≤ c0_2) (h : tensor_Tensor_value.f a0_0 a0_1 l0_2 a0_3 a1 = some r) :
    Calls Tryz.prog 69 #[.agg #[.string a0_0, .int .i64 a0_1, .slice A0_2 l0_2.length c0_2, .string a0_3], .string a1] w fun e w' => e = .returned (.bool r) ∧ Below w.heap.size w w' := by
  have hu := Tryz.underlying33
  clear hr0_2 hc0_2
  unfold tensor_Tensor_value.f at h
  by_cases h9 : a0_1 = 9
  · subst h9
    rw [if_pos rfl] at h
    by_cases hs : 0 < a1.size
    · rw [if_pos hs] at h
      obtain rfl := Option.some.inj h
      have hb := bt_at a1 0 (by simpa using hs)
      have q1 : (0 < (a1.size : Int)) = True := eq_true (by omega)
      clear h
      go_enter Tryz.func69, Tryz.ntmps69
      go_wp2
      go_ret
      exact ⟨by rw [← hb]; rfl, below_alloc (Below.refl _ _) _⟩
    · rw [if_neg hs] at h; cases h
  · rw [if_neg h9] at h
    have h9b : (a0_1 == 9) = false := beq_eq_false_iff_ne.2 h9
    by_cases h14 : a0_1 = 14
    · subst h14
      rw [if_pos rfl] at h
      obtain rfl := Option.some.inj h
      clear h h9 h9b
      go_enter Tryz.func69, Tryz.ntmps69
      go_wp2_with (first | (fail))
      refine (gauss_Read.calls a1 _).mono ?_
      rintro e w1 ⟨rfl, hb⟩
      have HB := Aside0.mk (below_step (below_alloc (Below.refl w.heap.size w) _) hb)
      rw [show (readF a1).2.2 = (readR a1).2.2 from rfl]
      clear hb
      go_wp2_with (first | (fail))
      go_ret
      exact ⟨rfl, HB.out⟩
    · rw [if_neg h14] at h
      obtain rfl := Option.some.inj h
      have h14b : (a0_1 == 14) = false := beq_eq_false_iff_ne.2 h14
      clear h h9 h14
      go_enter Tryz.func69, Tryz.ntmps69
      go_wp2
      go_ret
      exact ⟨rfl, below_alloc (Below.refl _ _) _⟩
end Go.Proofs.YtgmggompdidcoaaGreatDoor.X
namespace Go.Proofs.YtgmggompdidcoaaGreatDoor.X
open Go.RowKit Go.Proofs.YtgmggompdidcoaaGreatDoorW.PrintWords Go.Proofs.YtgmggompdidcoaaGreatDoorW.PrintLast Go.Proofs.YtgmggompdidcoaaGreatDoorW.PrintMore
attribute [local go_sem] max2_int min2_int max_two min_two max_three min_three max_four min_four
set_option linter.unusedVariables false
set_option linter.unusedSimpArgs false
mutual
def shape_Size.l0 : Nat → List Int → List Int → Int → Int → Option (Int × Int)
 | 0, _, _, _, _ => none
 | k + 1, x0, x13, x14, x15 => if x15 < x14 then (if 0 ≤ x15 then (if x15 < (x13.length : Int) then (if (rd x13 x15) < 0 then (some (0, 6)) else (shape_Size.l0 k x0 x13 x14 (wrap64 (x15 + 1)))) else (none)) else (none)) else (shape_Size.l1 k 1 false x0 (x0.length : Int) 0)
def shape_Size.l1 : Nat → Int → Bool → List Int → Int → Int → Option (Int × Int)
 | 0, _, _, _, _, _ => none
 | k + 1, x6, x7, x22, x23, x24 => if x24 < x23 then (if 0 ≤ x24 then (if x24 < (x22.length : Int) then (if (rd x22 x24) > 65536 then (some (0, 7)) else (if (rd x22 x24) = 0 then (shape_Size.l1 k x6 true x22 x23 (wrap64 (x24 + 1))) else (shape_Size.l1 k (mn (wrap64 (x6 * (rd x22 x24))) 65537) x7 x22 x23 (wrap64 (x24 + 1))))) else (none)) else (none)) else (if x7 = true then (some (0, 0)) else (if x6 > 65536 then (some (0, 7)) else (some (x6, 0))))
end
def shape_Size.f (k : Nat) (l0 : List Int) : Option (Int × Int) := if (l0.length : Int) > 8 then (some (0, 6)) else (shape_Size.l0 k l0 l0 (l0.length : Int) 0)
set_option maxHeartbeats 8000000 in
set_option maxRecDepth 100000 in
theorem shape_Size.calls (k : Nat) (A0 : Option Addr) (c0 : Nat) (l0 : List Int) (r1 : Int) (r2 : Int) (w : World) (hr0 : Kd.C (Kd.int .i64) w A0 l0.length l0) (hc0 : l0.length ≤ c0) (h : shape_Size.f k l0 = some (r1, r2)) :
  Calls Tryz.prog 57 #[.slice A0 l0.length c0] w fun e w' => e = .returned (.tuple #[.int .i64 r1, .int .i64 r2]) ∧ Below w.heap.size w w' := by
 have HR0 := mk0 hr0; have HC0 := mk0 hc0; clear hr0 hc0; have HB := mk0 (Below.refl w.heap.size w); have H : (if (l0.length : Int) > 8 then (some (0, 6)) else (shape_Size.l0 k l0 l0 (l0.length : Int) 0)) = some (r1, r2) := h; clear h
 by_cases c2 : (l0.length : Int) > 8
 ·
  rw [if_pos c2] at H; have c2b0 := decide_eq_true c2; have c2b1 : decide (8 < l0.length) = true := decide_eq_true (by omega); clear c2
  simp only [Option.some.injEq, Prod.mk.injEq] at H
  obtain ⟨rfl, rfl⟩ := H
  go_enter Tryz.func57, Tryz.ntmps57
  go_wp2
  go_ret2
  exact ⟨cl3, hbA HB⟩
 ·
  rw [if_neg c2] at H; have c2b0 := decide_eq_false c2; have c2b1 : decide (8 < l0.length) = false := decide_eq_false (by omega); clear c2; have H' := mk0 H; clear H
  go_enter Tryz.func57, Tryz.ntmps57
  go_wp2
  go_loopg [15] k (fun kq v15 w' => ∃ (x15_1 : Int), v15 = .int .i64 x15_1 ∧ Aside0 (shape_Size.l0 kq l0 l0 (l0.length : Int) x15_1 = some (r1, r2)) ∧ Aside0 (kq ≤ k) ∧ Aside0 (Below w.heap.size w w'))
  case atStart => exact ⟨(0), cl0, H', ⟨Nat.le_refl _⟩, ⟨hbA HB⟩⟩
  case round =>
   clear H'; try clear c2; try clear c2b0; try clear c2b1
   obtain ⟨x15_1, rfl, HA, HK1, HB⟩ := hrel
   cases gk with
   | zero => exact absurd HA.out (by simp [shape_Size.l0])
   | succ k1 =>
    have H := HA.out; clear HA
    simp only [shape_Size.l0] at H
    by_cases c3 : x15_1 < (l0.length : Int)
    ·
     rw [if_pos c3] at H; have c3b0 := decide_eq_true c3; clear c3; replace H := ifS H; obtain ⟨c4, H⟩ := H; have c4b0 := decide_eq_true c4; clear c4
     by_cases c5 : x15_1 < (l0.length : Int)
     ·
      rw [if_pos c5] at H; have c5b0 := decide_eq_true c5; clear c5
      by_cases c6 : (rd l0 x15_1) < 0
      ·
       rw [if_pos c6] at H; have c6b0 := decide_eq_true c6; clear c6
       simp only [Option.some.injEq, Prod.mk.injEq] at H
       obtain ⟨rfl, rfl⟩ := H; have p101 : 0 ≤ (x15_1 : Int) := ofd; have q101 : x15_1 < (l0.length : Int) := ofd; obtain ⟨ad101, e101, hx101_0⟩ := Kd.at_int HR0.out x15_1 p101 q101; cases e101; replace hx101_0 := hbc HB hx101_0; replace p101 := eq_true p101; replace q101 := eq_true q101
       go_wp2
       go_ret2
       exact ⟨cl3, hbA HB⟩
      ·
       rw [if_neg c6] at H; have c6b0 := decide_eq_false c6; clear c6; have H' := mk0 H; clear H; have p101 : 0 ≤ (x15_1 : Int) := ofd; have q101 : x15_1 < (l0.length : Int) := ofd; obtain ⟨ad101, e101, hx101_0⟩ := Kd.at_int HR0.out x15_1 p101 q101; cases e101; replace hx101_0 := hbc HB hx101_0; replace p101 := eq_true p101; replace q101 := eq_true q101
       go_wp2
       go_roundg k1
       case measure => have := HK1.out; omega
       case rel => exact ⟨(wrap64 (x15_1 + 1)), cl0, H', cl2 HK1, ⟨hbA HB⟩⟩
     ·
      exact absurd (of_decide_eq_true c3b0) c5
    ·
     rw [if_neg c3] at H; have c3b0 := decide_eq_false c3; clear c3; have H' := mk0 H; clear H
     go_wp2
     go_loopg [6, 7, 24] k1 (fun kq v6 v7 v24 w' => ∃ (x6_2 : Int) (x7_2 : Bool) (x24_2 : Int), v6 = .int .i64 x6_2 ∧ v7 = .bool x7_2 ∧ v24 = .int .i64 x24_2 ∧ Aside0 (shape_Size.l1 kq x6_2 x7_2 l0 (l0.length : Int) x24_2 = some (r1, r2)) ∧ Aside0 (kq ≤ k1) ∧ Aside0 (Below w.heap.size w w'))
     case atStart => exact ⟨(1), (false), (0), cl0, cl0, cl0, H', ⟨Nat.le_refl _⟩, ⟨hbA HB⟩⟩
     case round =>
      clear H'; obtain ⟨x6_2, x7_2, x24_2, rfl, rfl, rfl, HA, HK2, HB⟩ := hrel
      cases gk with
      | zero => exact absurd HA.out (by simp [shape_Size.l1])
      | succ k2 =>
       have H := HA.out; clear HA
       simp only [shape_Size.l1] at H
       by_cases c7 : x24_2 < (l0.length : Int)
       ·
        rw [if_pos c7] at H; have c7b0 := decide_eq_true c7; clear c7; replace H := ifS H; obtain ⟨c8, H⟩ := H; have c8b0 := decide_eq_true c8; clear c8
        by_cases c9 : x24_2 < (l0.length : Int)
        ·
         rw [if_pos c9] at H; have c9b0 := decide_eq_true c9; clear c9
         by_cases c10 : (rd l0 x24_2) > 65536
         ·
          rw [if_pos c10] at H; have c10b0 := decide_eq_true c10; clear c10
          simp only [Option.some.injEq, Prod.mk.injEq] at H
          obtain ⟨rfl, rfl⟩ := H; have p102 : 0 ≤ (x24_2 : Int) := ofd; have q102 : x24_2 < (l0.length : Int) := ofd; obtain ⟨ad102, e102, hx102_0⟩ := Kd.at_int HR0.out x24_2 p102 q102; cases e102; replace hx102_0 := hbc HB hx102_0; replace p102 := eq_true p102; replace q102 := eq_true q102
          go_wp2
          go_ret2
          exact ⟨cl3, hbA HB⟩
         ·
          rw [if_neg c10] at H; have c10b0 := decide_eq_false c10; clear c10
          by_cases c11 : (rd l0 x24_2) = 0
          ·
           rw [if_pos c11] at H; have c11b0 := beq_iff_eq.mpr c11; have c11b1 := bne_eq_false_iff_eq.mpr c11; clear c11; have H' := mk0 H; clear H; have p102 : 0 ≤ (x24_2 : Int) := ofd; have q102 : x24_2 < (l0.length : Int) := ofd; obtain ⟨ad102, e102, hx102_0⟩ := Kd.at_int HR0.out x24_2 p102 q102; cases e102; replace hx102_0 := hbc HB hx102_0; replace p102 := eq_true p102; replace q102 := eq_true q102
           go_wp2
           go_roundg k2
           case measure => have := HK1.out; have := HK2.out; omega
           case rel => exact ⟨(x6_2), (true), (wrap64 (x24_2 + 1)), cl0, cl0, cl0, H', ⟨by have := HK1.out; have := HK2.out; omega⟩, ⟨hbA HB⟩⟩
          ·
           rw [if_neg c11] at H; have c11b0 := beq_eq_false_iff_ne.mpr c11; have c11b1 := bne_iff_ne.mpr c11; obtain ⟨ji12, hji12⟩ : ∃ j_ : Int, (mn (wrap64 (x6_2 * (rd l0 x24_2))) 65537) = j_ := ⟨_, rfl⟩; replace H : (shape_Size.l1 k2 ji12 x7_2 l0 (l0.length : Int) (wrap64 (x24_2 + 1))) = some (r1, r2) := by first | (rw [hji12] at H; exact H) | (simp only [hji12] at H ⊢; exact H)
           have hji12_ : (if 65537 < (wrap64 (x6_2 * (rd l0 x24_2))) then 65537 else (wrap64 (x6_2 * (rd l0 x24_2)))) = ji12 := hji12; have H' := mk0 H; clear H; have p102 : 0 ≤ (x24_2 : Int) := ofd; have q102 : x24_2 < (l0.length : Int) := ofd; obtain ⟨ad102, e102, hx102_0⟩ := Kd.at_int HR0.out x24_2 p102 q102; cases e102; replace hx102_0 := hbc HB hx102_0; replace p102 := eq_true p102; replace q102 := eq_true q102
           go_wp2
           go_roundg k2
           case measure => have := HK1.out; have := HK2.out; omega
           case rel => exact ⟨(ji12), (x7_2), (wrap64 (x24_2 + 1)), (by first | rfl | (simp; done) | (simp only [← hji12] <;> (first | rfl | simp)) | (simp [*]; done)), cl0, cl0, H', ⟨by have := HK1.out; have := HK2.out; omega⟩, ⟨hbA HB⟩⟩
        ·
         exact absurd (of_decide_eq_true c7b0) c9
       ·
        rw [if_neg c7] at H; have c7b0 := decide_eq_false c7; clear c7
        by_cases c13 : x7_2 = true
        ·
         subst c13; have H1 : (some (0, 0)) = some (r1, r2) := by rw [if_pos rfl] at H; exact H
         clear H; have H := H1; clear H1
         simp only [Option.some.injEq, Prod.mk.injEq] at H
         obtain ⟨rfl, rfl⟩ := H
         go_wp2
         go_ret2
         exact ⟨cl3, hbA HB⟩
        ·
         replace c13 := Bool.eq_false_iff.mpr c13; subst c13; have H1 : (if x6_2 > 65536 then (some (0, 7)) else (some (x6_2, 0))) = some (r1, r2) := by rw [if_neg (show ¬ (false = true) by decide)] at H; exact H
         clear H; have H := H1; clear H1
         by_cases c14 : x6_2 > 65536
         ·
          rw [if_pos c14] at H; have c14b0 := decide_eq_true c14; clear c14
          simp only [Option.some.injEq, Prod.mk.injEq] at H
          obtain ⟨rfl, rfl⟩ := H
          go_wp2
          go_ret2
          exact ⟨cl3, hbA HB⟩
         ·
          rw [if_neg c14] at H; have c14b0 := decide_eq_false c14; clear c14
          simp only [Option.some.injEq, Prod.mk.injEq] at H
          obtain ⟨rfl, rfl⟩ := H
          go_wp2
          go_ret2
          exact ⟨cl3, hbA HB⟩
end Go.Proofs.YtgmggompdidcoaaGreatDoor.X
