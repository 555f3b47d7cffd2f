import Derived.Test.YtfejdnkmmjffcaaMModelTells3
import Derived.Test.YtfejdnkmmjffcaaMModelTells4
import Derived.Laws.BitsLemmas
import Derived.Test.YtfejdnkmmjffcaaMModelTells6
import Derived.WalkLawsBesides
import Derived.Deep.RegionHeld3
namespace Go.Proofs.Ytfejdnkmmjffcaa.X
open Go.RowKit Go.Proofs.YtfejdnkmmjffcaaW.PrintWords Go.Proofs.YtfejdnkmmjffcaaW.PrintLast Go.Proofs.YtfejdnkmmjffcaaW.PrintMore
attribute [local go_sem] max2_int min2_int max_two min_two max_three min_three max_four min_four
set_option linter.unusedVariables false
set_option linter.unusedSimpArgs false
def gauss_bits.f (a0 : ByteArray) : Option (Int) := if 0 < (a0.size : Int) then (if 1 < (a0.size : Int) then (if 2 < (a0.size : Int) then (if 3 < (a0.size : Int) then (some (Go.bits .or .u32 (Go.bits .or .u32 (Go.bits .or .u32 ((bt a0 0) % 4294967296) ((((bt a0 1) % 4294967296) * 256) % 4294967296)) ((((bt a0 2) % 4294967296) * 65536) % 4294967296)) ((((bt a0 3) % 4294967296) * 16777216) % 4294967296))) else (none)) else (none)) else (none)) else (none)
set_option maxHeartbeats 8000000 in
set_option maxRecDepth 100000 in
theorem gauss_bits.calls (a0 : ByteArray) (r : Int) (w : World) (h : gauss_bits.f a0 = some r) :
    Calls Try.prog 71 #[.string a0] w fun e w' => e = .returned (.int .u32 r) ∧ Drawn0 w w' := by
  have H : (if 0 < (a0.size : Int) then (if 1 < (a0.size : Int) then (if 2 < (a0.size : Int) then (if 3 < (a0.size : Int) then (some (Go.bits .or .u32 (Go.bits .or .u32 (Go.bits .or .u32 ((bt a0 0) % 4294967296) ((((bt a0 1) % 4294967296) * 256) % 4294967296)) ((((bt a0 2) % 4294967296) * 65536) % 4294967296)) ((((bt a0 3) % 4294967296) * 16777216) % 4294967296))) else (none)) else (none)) else (none)) else (none)) = some r := h; clear h
  by_cases c2 : 0 < (a0.size : Int)
  · rw [if_pos c2] at H
    have c2b0 := decide_eq_true c2; have c2b1 : decide (0 < a0.size) = true := decide_eq_true (by omega); clear c2
    by_cases c4 : 1 < (a0.size : Int)
    · rw [if_pos c4] at H
      have c4b0 := decide_eq_true c4; have c4b1 : decide (1 < a0.size) = true := decide_eq_true (by omega); clear c4
      by_cases c6 : 2 < (a0.size : Int)
      · rw [if_pos c6] at H
        have c6b0 := decide_eq_true c6; have c6b1 : decide (2 < a0.size) = true := decide_eq_true (by omega); clear c6
        by_cases c8 : 3 < (a0.size : Int)
        · rw [if_pos c8] at H
          have c8b0 := decide_eq_true c8; have c8b1 : decide (3 < a0.size) = true := decide_eq_true (by omega); clear c8; obtain rfl := Option.some.inj H; have p3 : 0 ≤ (0 : Int) := (by omega); have q3 : 0 < a0.size := (by have : (0 : Int) < (a0.size : Int) := ofd; omega); have hx3 : ∀ h : 0 < a0.size, ((a0[0]'h).toNat : Int) = bt a0 0 := bt_at a0 0; clear p3; have qi3 : (0 < (a0.size : Int)) = True := eq_true (ofd); replace q3 := eq_true q3; have p5 : 0 ≤ (1 : Int) := (by omega); have q5 : 1 < a0.size := (by have : (1 : Int) < (a0.size : Int) := ofd; omega); have hx5 : ∀ h : 1 < a0.size, ((a0[1]'h).toNat : Int) = bt a0 1 := bt_at a0 1; clear p5; have qi5 : (1 < (a0.size : Int)) = True := eq_true (ofd); replace q5 := eq_true q5; have p7 : 0 ≤ (2 : Int) := (by omega); have q7 : 2 < a0.size := (by have : (2 : Int) < (a0.size : Int) := ofd; omega); have hx7 : ∀ h : 2 < a0.size, ((a0[2]'h).toNat : Int) = bt a0 2 := bt_at a0 2; clear p7; have qi7 : (2 < (a0.size : Int)) = True := eq_true (ofd); replace q7 := eq_true q7; have p9 : 0 ≤ (3 : Int) := (by omega); have q9 : 3 < a0.size := (by have : (3 : Int) < (a0.size : Int) := ofd; omega); have hx9 : ∀ h : 3 < a0.size, ((a0[3]'h).toNat : Int) = bt a0 3 := bt_at a0 3; clear p9; have qi9 : (3 < (a0.size : Int)) = True := eq_true (ofd); replace q9 := eq_true q9
          go_enter Try.func71, Try.ntmps71
          go_wp2
          repeat (go_quiet (fail); try go_wp2)
          go_ret
          exact ⟨by first | rfl | (simp; done) | (simp [*]; done), by repeat (first | exact Drawn0.refl _ | apply Drawn0.step)⟩
        · rw [if_neg c8] at H; exact ne0 H
      · rw [if_neg c6] at H; exact ne0 H
    · rw [if_neg c4] at H; exact ne0 H
  · rw [if_neg c2] at H; exact ne0 H
def wd (b : ByteArray) : Nat := ((bt b 0) + (bt b 1) * 256 + (bt b 2) * 65536 + (bt b 3) * 16777216).toNat
theorem wd_eq (b : ByteArray) : ((wd b : Nat) : Int) = (bt b 0) + (bt b 1) * 256 + (bt b 2) * 65536 + (bt b 3) * 16777216 := by
  have h0 := bt_range b 0
  have h1 := bt_range b 1
  have h2 := bt_range b 2
  have h3 := bt_range b 3
  unfold wd; omega
theorem wd_lt (b : ByteArray) : wd b < 4294967296 := by
  have h := wd_eq b
  have h0 := bt_range b 0
  have h1 := bt_range b 1
  have h2 := bt_range b 2
  have h3 := bt_range b 3
  omega
theorem or_low (x y : Int) (i : Nat) (hx0 : 0 ≤ x) (hx : x < 2 ^ i) (hy0 : 0 ≤ y) (hy : y % 2 ^ i = 0) (hx1 : x < 4294967296) (hy1 : y < 4294967296) : Go.bits .or .u32 x y = x + y := by
  have hc : Go.bits .or .u32 x y = Go.bits .or .u32 y x := by simp only [Go.bits, BitVec.or_comm]
  rw [hc, bits_join .u32 32 (by decide) (fun n h0 h1 => by rw [IntKind.wrap_u32]; omega) i y x hy0 hy (by omega) hx0 hx (by omega)]
  omega
def gauss_bits_s.f (a0 : ByteArray) : Option Int := if 4 ≤ a0.size then some (wd a0 : Int) else none
theorem gauss_bits_s.ev (a0 : ByteArray) (r) (h : gauss_bits_s.f a0 = some r) : ∃ k : Nat, gauss_bits.f a0 = some r := by
  refine ⟨0, ?_⟩
  unfold gauss_bits_s.f at h
  split at h
  · rename_i hs
    rw [← h]
    unfold gauss_bits.f
    have h0 := bt_range a0 0
    have h1 := bt_range a0 1
    have h2 := bt_range a0 2
    have h3 := bt_range a0 3
    rw [if_pos (by omega), if_pos (by omega), if_pos (by omega), if_pos (by omega), wd_eq]
    generalize bt a0 0 = x0 at *
    generalize bt a0 1 = x1 at *
    generalize bt a0 2 = x2 at *
    generalize bt a0 3 = x3 at *
    rw [show x0 % 4294967296 = x0 by omega, show x1 % 4294967296 * 256 % 4294967296 = x1 * 256 by omega, show x2 % 4294967296 * 65536 % 4294967296 = x2 * 65536 by omega, show x3 % 4294967296 * 16777216 % 4294967296 = x3 * 16777216 by omega,
      or_low x0 (x1 * 256) 8 (by omega) (by omega) (by omega) (by omega) (by omega) (by omega), or_low (x0 + x1 * 256) (x2 * 65536) 16 (by omega) (by omega) (by omega) (by omega) (by omega) (by omega), or_low (x0 + x1 * 256 + x2 * 65536) (x3 * 16777216) 24 (by omega) (by omega) (by omega) (by omega) (by omega) (by omega)]
  · cases h
set_option maxHeartbeats 1000000 in
theorem gauss_bits_s.calls (a0 : ByteArray) (r : Int) (w : World) (h : gauss_bits_s.f a0 = some r) :
    Calls Try.prog 71 #[.string a0] w fun e w' => e = .returned (.int .u32 r) ∧ Drawn0 w w' := by
  obtain ⟨k, hk⟩ := gauss_bits_s.ev a0 _ h
  exact gauss_bits.calls a0 r w hk
theorem F_eq (n : Int) : floatOfInt .f64 n = dI (decide (n < 0)) n.natAbs := rfl
theorem F_int (n : Int) (h0 : -9007199254740992 < n) (h1 : n < 9007199254740992) : IntF (floatOfInt .f64 n) (decide (n < 0)) n.natAbs := dI_int _ _ (by omega)
theorem F_lt (n : Int) : floatOfInt .f64 n < 18446744073709551616 := Ieee.double.nearest_lt _ _ _
theorem part_F (n : Int) (h0 : -9007199254740992 < n) (h1 : n < 9007199254740992) : partE (floatOfInt .f64 n) = decide (-1048576 ≤ n ∧ n ≤ 1048576) := by
  rw [part_int (F_lt n) (F_int n h0 h1)]
  have e : (decide (n.natAbs ≠ 0) || !decide (n < 0)) = true := by
    by_cases h : n < 0
    · rw [decide_eq_true (show n.natAbs ≠ 0 by omega)]; rfl
    · rw [decide_eq_false h]; simp
  rw [e, Bool.and_true, decide_eq_decide]
  omega
theorem F32_word (n : Int) (h : n ≠ 0) (h1 : n.natAbs < 16777216) : floatOfInt .f32 n = (if n < 0 then 2147483648 else 0) + ((n.natAbs.log2 + 126) * 8388608 + n.natAbs * 2 ^ (23 - n.natAbs.log2)) := by
  have hk : n.natAbs ≠ 0 := by omega
  have hl : n.natAbs.log2 ≤ 23 := by
    have := (Nat.log2_lt hk).2 (show n.natAbs < 2 ^ 24 from h1); omega
  have hL := (Nat.log2_eq_iff hk).1 rfl
  show Ieee.single.nearest (decide (n < 0)) n.natAbs 0 = _
  unfold Ieee.Format.nearest
  rw [if_neg hk]
  dsimp only
  have hf : Ieee.single.fractionBits = 23 := rfl
  have hb : Ieee.single.binade = 8388608 := by decide
  have hi : Ieee.single.infRung = 255 * 8388608 := by decide
  have hs : Ieee.single.signWeight = 2147483648 := by decide
  rw [sl, hf, hb, hi]
  have hm : max ((0 : Int) + (n.natAbs.log2 : Int) - ((23 : Nat) : Int)) (-149) = (n.natAbs.log2 : Int) - 23 := by omega
  rw [hm, show ((n.natAbs.log2 : Int) - 23 - 0).toNat = 0 by omega, cut_nought, show (0 - ((n.natAbs.log2 : Int) - 23)).toNat = 23 - n.natAbs.log2 by omega, Nat.shiftLeft_eq, show ((n.natAbs.log2 : Int) - 23 - -149).toNat = n.natAbs.log2 + 126 by omega]
  have hK : n.natAbs * 2 ^ (23 - n.natAbs.log2) < 16777216 := by
    have h2 : n.natAbs * 2 ^ (23 - n.natAbs.log2) < 2 ^ (n.natAbs.log2 + 1) * 2 ^ (23 - n.natAbs.log2) := (Nat.mul_lt_mul_right (Nat.two_pow_pos _)).2 hL.2
    rw [← Nat.pow_add, show n.natAbs.log2 + 1 + (23 - n.natAbs.log2) = 24 by omega] at h2
    exact h2
  rw [Nat.min_eq_left (by omega)]
  unfold Ieee.Format.word
  rw [hs]
  by_cases g : n < 0
  · rw [if_pos (decide_eq_true g), if_pos g]
  · rw [if_neg (by simp; omega), if_neg g, Nat.zero_add]
def wholeS (v : Nat) : Int × Bool :=
  if v = 0 then (0, true)
  else if v / 8388608 % 256 < 127 ∨ v / 8388608 % 256 > 147 then (0, false)
  else if (v % 8388608 + 8388608) % 2 ^ (150 - v / 8388608 % 256) = 0 then (sgn (decide (v ≥ 2147483648)) ((v % 8388608 + 8388608) / 2 ^ (150 - v / 8388608 % 256)), decide ((v % 8388608 + 8388608) / 2 ^ (150 - v / 8388608 % 256) ≤ 1048576))
  else (0, false)
def wideV (v : Nat) : Nat := Ieee.double.write (Ieee.single.read v)
theorem read_single (v : Nat) (hv : v < 4294967296) : Ieee.single.read v =
    (if v % 2147483648 < 8388608 then .number (decide (v ≥ 2147483648)) (v % 2147483648) (-149)
     else if v % 2147483648 < 2139095040 then .number (decide (v ≥ 2147483648)) (8388608 + v % 8388608) (-149 + ((v / 8388608 % 256 - 1 : Nat) : Int))
     else if v % 2147483648 = 2139095040 then .infinity (decide (v ≥ 2147483648))
     else .nan (decide (v ≥ 2147483648)) (v % 2147483648 - 2139095040)) := by
  have hb : Ieee.single.binade = 8388608 := by decide
  have hi : Ieee.single.infRung = 2139095040 := by decide
  have hs : Ieee.single.signWeight = 2147483648 := by decide
  unfold Ieee.Format.read
  dsimp only
  rw [hb, hi, hs, sl]
  have e1 : (v / 2147483648 % 2 == 1) = decide (v ≥ 2147483648) := by
    rw [Bool.eq_iff_iff, beq_iff_eq, decide_eq_true_iff]; omega
  have e2 : v % 2147483648 % 8388608 = v % 8388608 := by omega
  have e3 : v % 2147483648 / 8388608 = v / 8388608 % 256 := by omega
  rw [e1, e2, e3]
theorem wide_number {v : Nat} {s : Bool} {m : Nat} {p : Int} (h : Ieee.single.read v = .number s m p) (hp : p ≤ 104) : Num Ieee.double (wideV v) s (m * 2 ^ (p + 1074).toNat) ∧ wideV v = Ieee.double.nearest s m p := by
  obtain ⟨h1, h2⟩ := read_small h
  rw [sl] at h2
  have hb : Ieee.single.binade = 8388608 := by decide
  rw [hb] at h1
  have e : wideV v = Ieee.double.nearest s m p := by unfold wideV; rw [h]; rfl
  refine ⟨?_, e⟩
  rw [e]
  have hl : m.log2 ≤ 24 := by
    by_cases h0 : m = 0
    · subst h0; decide
    · have := (Nat.log2_lt h0).2 (show m < 2 ^ 24 by omega); omega
  have := num_nearest Ieee.double s m p (by rw [dl]; omega) (by show m < 2 ^ 53; omega) (by
    rw [dl]
    show (p + (m.log2 : Int) - ((52 : Nat) : Int) - (-1074)).toNat + 3 ≤ 2 ^ 11
    omega)
  rw [dl, Int.sub_neg] at this
  exact this
theorem wide_lt (v : Nat) : wideV v < 18446744073709551616 := Ieee.double.write_lt _
theorem Ubig_cut (e : Nat) (h : e ≤ 1074) : Ubig = 2 ^ (1074 - e) * 2 ^ e := by
  have : ∀ E, E = 1074 → Ubig = 2 ^ E := fun E hE => by rw [hE]; exact Ubig_eq
  rw [this (1074 - e + e) (by omega), Nat.pow_add]
theorem part_wide (x : Nat) (hx : x < 18446744073709551616) (s : Bool) (m j : Nat) (hj : j ≤ 1074) (hm : 0 < m) (h : Num Ieee.double x s (m * 2 ^ (1074 - j))) :
    (m % 2 ^ j = 0 → IntF x s (m / 2 ^ j)) ∧ partE x = (decide (m % 2 ^ j = 0) && decide (m / 2 ^ j ≤ 1048576)) := by
  have hU := Ubig_cut j hj
  have hA : 0 < 2 ^ (1074 - j) := Nat.two_pow_pos _
  have hJ : 0 < 2 ^ j := Nat.two_pow_pos _
  have hd : m * 2 ^ (1074 - j) / Ubig = m / 2 ^ j := by
    rw [hU, Nat.mul_comm (2 ^ (1074 - j)), Nat.mul_div_mul_right _ _ hA]
  have hmul : ∀ q, q * Ubig = q * 2 ^ j * 2 ^ (1074 - j) := fun q => by rw [hU, Nat.mul_comm (2 ^ (1074 - j)), Nat.mul_assoc]
  have hdm := Nat.div_add_mod m (2 ^ j)
  rw [Nat.mul_comm] at hdm
  have hI : m % 2 ^ j = 0 → IntF x s (m / 2 ^ j) := by
    intro g
    unfold IntF
    rw [hmul]
    have : m / 2 ^ j * 2 ^ j = m := by omega
    rw [this]; exact h
  refine ⟨hI, ?_⟩
  by_cases g : m % 2 ^ j = 0
  · rw [part_int hx (hI g), decide_eq_true g, Bool.true_and]
    have : m / 2 ^ j ≠ 0 := by
      intro h0
      rw [h0, Nat.zero_mul] at hdm; omega
    rw [decide_eq_true this, Bool.true_or, Bool.and_true]
  · rw [part_num hx h, decide_eq_false g, Bool.false_and, hd, hmul (m / 2 ^ j)]
    have : ¬ (m / 2 ^ j * 2 ^ j * 2 ^ (1074 - j) = m * 2 ^ (1074 - j)) := by
      intro e
      have := Nat.eq_of_mul_eq_mul_right hA e
      omega
    rw [decide_eq_false this, Bool.false_and, Bool.and_false]
theorem whole_wide (v : Nat) (hv : v < 4294967296) (hn : (Ieee.single.read v).isNaN = false) : partE (wideV v) = (wholeS v).2 ∧ ((wholeS v).2 = true → wideV v = floatOfInt .f64 (wholeS v).1 ∧ (-1048576 ≤ (wholeS v).1 ∧ (wholeS v).1 ≤ 1048576) ∧ v = floatOfInt .f32 (wholeS v).1) := by
  have hr := read_single v hv
  have hx := wide_lt v
  by_cases h0 : v = 0
  · subst h0
    have ew : wideV 0 = floatOfInt .f64 0 := by decide +kernel
    have es : wholeS 0 = (0, true) := by unfold wholeS; rw [if_pos rfl]
    rw [es, ew, part_F 0 (by decide) (by decide)]
    refine ⟨by decide, fun _ => ⟨rfl, by decide, by decide +kernel⟩⟩
  by_cases hE : v / 8388608 % 256 < 127 ∨ v / 8388608 % 256 > 147
  · have es : wholeS v = (0, false) := by unfold wholeS; rw [if_neg h0, if_pos hE]
    rw [es]
    refine ⟨?_, fun h => by cases h⟩
    by_cases h1 : v % 2147483648 < 8388608
    · rw [if_pos h1] at hr
      have hw := (wide_number hr (by decide)).1
      obtain ⟨E, hE2⟩ : ∃ E : Nat, E = 149 := ⟨_, rfl⟩
      rw [show ((-149 : Int) + 1074).toNat = 1074 - E by omega] at hw
      by_cases hz : v % 2147483648 = 0
      · rw [hz, Nat.zero_mul] at hw
        rw [part_num hx hw, decide_eq_true (show v ≥ 2147483648 by omega)]
        simp
      · rw [(part_wide _ hx _ _ E (by omega) (by omega) hw).2]
        have : ¬ v % 2147483648 % 2 ^ E = 0 := by
          rw [Nat.mod_eq_of_lt (Nat.lt_of_lt_of_le (show v % 2147483648 < 2 ^ 23 by omega) (Nat.pow_le_pow_right (by decide) (by omega)))]
          exact hz
        rw [decide_eq_false this, Bool.false_and]
    · rw [if_neg h1] at hr
      by_cases h2 : v % 2147483648 < 2139095040
      · rw [if_pos h2] at hr
        have hw := (wide_number hr (by omega)).1
        by_cases h3 : v / 8388608 % 256 < 127
        · rw [show (-149 + ((v / 8388608 % 256 - 1 : Nat) : Int) + 1074).toNat = 1074 - (150 - v / 8388608 % 256) by omega] at hw
          rw [(part_wide _ hx _ _ (150 - v / 8388608 % 256) (by omega) (by omega) hw).2]
          have : ¬ (8388608 + v % 8388608) % 2 ^ (150 - v / 8388608 % 256) = 0 := by
            rw [Nat.mod_eq_of_lt (Nat.lt_of_lt_of_le (show 8388608 + v % 8388608 < 2 ^ 24 by omega) (Nat.pow_le_pow_right (by decide) (by omega)))]
            omega
          rw [decide_eq_false this, Bool.false_and]
        · have hbig : ¬ ((8388608 + v % 8388608) * 2 ^ (-149 + ((v / 8388608 % 256 - 1 : Nat) : Int) + 1074).toNat ≤ 1048576 * Ubig) := by
            obtain ⟨E, hE2⟩ : ∃ E : Nat, E = 2 := ⟨_, rfl⟩
            have hU := Ubig_cut E (by omega)
            have hle : 2 ^ (1074 - E) ≤ 2 ^ (-149 + ((v / 8388608 % 256 - 1 : Nat) : Int) + 1074).toNat := Nat.pow_le_pow_right (by decide) (by omega)
            have hA : 0 < 2 ^ (1074 - E) := Nat.two_pow_pos _
            generalize 2 ^ (1074 - E) = A at hU hle hA
            rw [hE2] at hU
            generalize 2 ^ (-149 + ((v / 8388608 % 256 - 1 : Nat) : Int) + 1074).toNat = B at hle
            have h5 : 8388608 * A ≤ (8388608 + v % 8388608) * B := Nat.mul_le_mul (by omega) hle
            rw [hU]; omega
          rw [part_num hx hw, decide_eq_false hbig, Bool.false_and]
      · rw [if_neg h2] at hr
        by_cases h3 : v % 2147483648 = 2139095040
        · rw [if_pos h3] at hr
          have hi : Ieee.double.read (wideV v) = .infinity (decide (v ≥ 2147483648)) := by
            unfold wideV; rw [hr]
            generalize decide (v ≥ 2147483648) = s
            cases s <;> decide +kernel
          unfold partE
          rw [order_inf hi cN, order_inf hi cP]
          generalize decide (v ≥ 2147483648) = s
          cases s <;> rfl
        · rw [if_neg h3] at hr
          rw [hr] at hn; cases hn
  · have h1 : ¬ v % 2147483648 < 8388608 := by omega
    have h2 : v % 2147483648 < 2139095040 := by omega
    rw [if_neg h1, if_pos h2] at hr
    obtain ⟨hw, ew⟩ := wide_number hr (by omega)
    rw [show (-149 + ((v / 8388608 % 256 - 1 : Nat) : Int) + 1074).toNat = 1074 - (150 - v / 8388608 % 256) by omega, Nat.add_comm 8388608] at hw
    obtain ⟨p1, p2⟩ := part_wide _ hx _ _ (150 - v / 8388608 % 256) (by omega) (by omega) hw
    by_cases g : (v % 8388608 + 8388608) % 2 ^ (150 - v / 8388608 % 256) = 0
    · have es : wholeS v = (sgn (decide (v ≥ 2147483648)) ((v % 8388608 + 8388608) / 2 ^ (150 - v / 8388608 % 256)), decide ((v % 8388608 + 8388608) / 2 ^ (150 - v / 8388608 % 256) ≤ 1048576)) := by
        unfold wholeS; rw [if_neg h0, if_neg hE, if_pos g]
      rw [es, p2, decide_eq_true g, Bool.true_and]
      refine ⟨rfl, fun hk => ?_⟩
      have hk : (v % 8388608 + 8388608) / 2 ^ (150 - v / 8388608 % 256) ≤ 1048576 := of_decide_eq_true hk
      have hi := p1 g
      have hdm := Nat.div_add_mod (v % 8388608 + 8388608) (2 ^ (150 - v / 8388608 % 256))
      rw [g, Nat.add_zero, Nat.mul_comm] at hdm
      generalize hK : (v % 8388608 + 8388608) / 2 ^ (150 - v / 8388608 % 256) = K at hk hi hdm ⊢
      have hK0 : K ≠ 0 := by
        intro h; rw [h, Nat.zero_mul] at hdm; omega
      have hsg : ∀ s : Bool, decide (sgn s K < 0) = s ∧ (sgn s K).natAbs = K := by
        intro s
        refine ⟨?_, sgn_abs s K⟩
        unfold sgn; cases s <;> simp <;> omega
      refine ⟨?_, ?_, ?_⟩
      · rw [F_eq, (hsg _).1, (hsg _).2, ew]
        refine dI_of (by omega) ?_
        have hU := Ubig_cut (150 - v / 8388608 % 256) (by omega)
        rw [show (-149 + ((v / 8388608 % 256 - 1 : Nat) : Int) + 1074).toNat = 1074 - (150 - v / 8388608 % 256) by omega, hU, Nat.mul_comm (2 ^ (1074 - _)), ← Nat.mul_assoc, hdm, Nat.add_comm]
      · unfold sgn; split <;> omega
      · have hn0 : sgn (decide (v ≥ 2147483648)) K ≠ 0 := by
          unfold sgn; split <;> omega
        rw [F32_word _ hn0 (by rw [sgn_abs]; omega), sgn_abs]
        have hlog : K.log2 = 23 - (150 - v / 8388608 % 256) := by
          rw [Nat.log2_eq_iff hK0]
          have hJ : 0 < 2 ^ (150 - v / 8388608 % 256) := Nat.two_pow_pos _
          constructor
          · refine Nat.le_of_mul_le_mul_right ?_ hJ
            rw [hdm, ← Nat.pow_add, show 23 - (150 - v / 8388608 % 256) + (150 - v / 8388608 % 256) = 23 by omega]
            omega
          · refine Nat.lt_of_mul_lt_mul_right (a := 2 ^ (150 - v / 8388608 % 256)) ?_
            rw [hdm, ← Nat.pow_add, show 23 - (150 - v / 8388608 % 256) + 1 + (150 - v / 8388608 % 256) = 24 by omega]
            omega
        rw [hlog, show 23 - (23 - (150 - v / 8388608 % 256)) = 150 - v / 8388608 % 256 by omega, hdm]
        have hneg : (sgn (decide (v ≥ 2147483648)) K < 0) ↔ v ≥ 2147483648 := by
          have := (hsg (decide (v ≥ 2147483648))).1
          rwa [decide_eq_decide] at this
        by_cases hs : v ≥ 2147483648
        · rw [if_pos (hneg.2 hs)]; omega
        · rw [if_neg (fun h => hs (hneg.1 h))]; omega
    · have es : wholeS v = (0, false) := by unfold wholeS; rw [if_neg h0, if_neg hE, if_neg g]
      rw [es, p2, decide_eq_false g]
      exact ⟨rfl, fun h => by cases h⟩
def readR (b : ByteArray) : Int × Int × Int :=
  if b.size < 8 then (0, 0, 1) else if b.size > 8 then (0, 0, 2)
  else if ((wholeS (wd b)).2 && (wholeS (wd (b.extract 4 b.size))).2) = true then ((wholeS (wd b)).1, (wholeS (wd (b.extract 4 b.size))).1, 0) else (0, 0, 17)
theorem nan_word (t : Nat) : ∃ n, Ieee.double.read ((t % 2) * 2 ^ 63 + 0x7ff0000000000000 + 1 + (t / 2) % (2 ^ 52 - 1)) = .nan ((t % 2) == 1) n := by
  have hb : Ieee.double.binade = 4503599627370496 := by decide
  have hi : Ieee.double.infRung = 9218868437227405312 := by decide
  have hs : Ieee.double.signWeight = 9223372036854775808 := by decide
  have e1 : (2 : Nat) ^ 63 = 9223372036854775808 := by decide
  have e2 : (2 : Nat) ^ 52 - 1 = 4503599627370495 := by decide
  rw [e1, e2]
  have hr : t / 2 % 4503599627370495 < 4503599627370495 := Nat.mod_lt _ (by decide)
  have ht : t % 2 < 2 := Nat.mod_lt _ (by decide)
  generalize t / 2 % 4503599627370495 = r at hr
  generalize t % 2 = s at ht
  unfold Ieee.Format.read
  dsimp only
  rw [hb, hi, hs]
  have d1 : (s * 9223372036854775808 + 9218868437227405312 + 1 + r) / 9223372036854775808 % 2 = s := by omega
  have d2 : (s * 9223372036854775808 + 9218868437227405312 + 1 + r) % 9223372036854775808 = 9218868437227405312 + 1 + r := by omega
  rw [d1, d2, if_neg (by omega), if_neg (by omega), if_neg (by omega)]
  exact ⟨_, rfl⟩
theorem nan_part (x : Nat) (h : ∃ s n, Ieee.double.read x = .nan s n) : partE x = false := by
  obtain ⟨s, n, h⟩ := h
  unfold partE
  rw [order_nan h]; rfl
theorem whole_nan (v : Nat) (hv : v < 4294967296) (hn : (Ieee.single.read v).isNaN = true) : (wholeS v).2 = false := by
  have hr := read_single v hv
  by_cases h1 : v % 2147483648 < 8388608
  · rw [if_pos h1] at hr; rw [hr] at hn; cases hn
  · rw [if_neg h1] at hr
    by_cases h2 : v % 2147483648 < 2139095040
    · rw [if_pos h2] at hr; rw [hr] at hn; cases hn
    · unfold wholeS
      rw [if_neg (by omega), if_pos (Or.inr (by omega))]
theorem wide_run (v : Nat) (hv : v < 4294967296) : ∃ (g : World → Nat) (k : Nat), (∀ w, partE (g w) = (wholeS v).2) ∧ ((wholeS v).2 = true → ∀ w, g w = floatOfInt .f64 (wholeS v).1) ∧ ∀ w, (convert 136 135 (.float .f32 v)).run Try.prog w = .ok (.float .f64 (g w)) (w.drewN k) := by
  cases hn : (Ieee.single.read v).isNaN with
  | false =>
    obtain ⟨h1, h2⟩ := whole_wide v hv hn
    refine ⟨fun _ => wideV v, 0, fun _ => h1, fun h _ => (h2 h).1, fun w => ?_⟩
    refine run_convert_float_float w 136 135 .f32 .f64 v (wideV v) (by rw [Try.underlying136]; rfl) Try.underlying135 ?_
    unfold floatToFloatBits
    rw [if_neg (by decide)]
    have ed : FloatKind.f32.decode v = Ieee.single.read v := rfl
    rw [ed]
    cases hr : Ieee.single.read v with
    | nan s n => rw [hr] at hn; cases hn
    | infinity s => show some (Ieee.double.write (.infinity s)) = some (wideV v); unfold wideV; rw [hr]
    | number s m p =>
      have hp : p ≤ 104 := by
        have h3 := read_single v hv
        rw [hr] at h3
        split at h3
        · cases h3; decide
        · split at h3
          · cases h3; omega
          · split at h3 <;> cases h3
      obtain ⟨⟨m', p', e, _, _⟩, ew⟩ := wide_number hr hp
      have e3 : FloatKind.f64.encode (.number s m p) = wideV v := ew.symm
      have e4 : FloatKind.f64.decode (wideV v) = .number s m' p' := e
      show (if (FloatKind.f64.decode (FloatKind.f64.encode (.number s m p))).isInfinity then none else some (FloatKind.f64.encode (.number s m p))) = some (wideV v)
      rw [e3, e4]; rfl
  | true =>
    refine ⟨fun w => (Question.nanConv .f64 v).cut (w.tape w.drawn (Question.nanConv .f64 v)), 1, fun w => ?_, fun h => ?_, fun w => ?_⟩
    · rw [whole_nan v hv hn]
      obtain ⟨n, h⟩ := nan_word (w.tape w.drawn (Question.nanConv .f64 v))
      exact nan_part _ ⟨_, n, h⟩
    · rw [whole_nan v hv hn] at h; cases h
    · have ed : FloatKind.f32.decode v = Ieee.single.read v := rfl
      cases hr : Ieee.single.read v with
      | infinity s => rw [hr] at hn; cases hn
      | number s m p => rw [hr] at hn; cases hn
      | nan s n =>
        have hs : Try.prog.underlying 136 = some (.float .f32) := Try.underlying136
        simp [convert, run_underlying hs, run_underlying Try.underlying135, Conv.floatToFloat, ed, hr, Question.forced, World.drewN]

theorem F_zero : floatOfInt .f64 0 = 0 := by decide +kernel
theorem bits_ok (b : ByteArray) (h : 4 ≤ b.size) : gauss_bits_s.f b = some (wd b : Int) := if_pos h
def readF (b : ByteArray) : Nat × Nat × Int := (floatOfInt .f64 (readR b).1, floatOfInt .f64 (readR b).2.1, (readR b).2.2)
theorem readF_short (b : ByteArray) (h : b.size < 8) : readF b = (0, 0, 1) := by unfold readF readR; rw [if_pos h]; simp only [F_zero]
theorem readF_long (b : ByteArray) (h : b.size > 8) : readF b = (0, 0, 2) := by unfold readF readR; rw [if_neg (by omega), if_pos h]; simp only [F_zero]
theorem readF_no (b : ByteArray) (h : b.size = 8) (h2 : ((wholeS (wd b)).2 && (wholeS (wd (b.extract 4 b.size))).2) = false) : readF b = (0, 0, 17) := by
  unfold readF readR; rw [if_neg (by omega), if_neg (by omega), h2, if_neg (by simp)]; simp only [F_zero]
theorem readF_yes (b : ByteArray) (h : b.size = 8) (h2 : ((wholeS (wd b)).2 && (wholeS (wd (b.extract 4 b.size))).2) = true) : readF b = (floatOfInt .f64 (wholeS (wd b)).1, floatOfInt .f64 (wholeS (wd (b.extract 4 b.size))).1, 0) := by
  unfold readF readR; rw [if_neg (by omega), if_neg (by omega), if_pos h2]
theorem may_one (g : Nat) (W : World) (x y : Nat) (hg : g = W.heap.size) :
    Calls Try.prog 69 #[.slice (some ⟨g, 0, none⟩) 1 1] (W.alloc (Obj.cells #[.complex .f64 x y] 104)) fun e w' => e = .returned (.bool (partE x && partE y)) ∧ w' = W.alloc (Obj.cells #[.complex .f64 x y] 104) := by
  subst hg
  have h := gauss_may.calls ⟨W.heap.size, 0, none⟩ 1 [(x, y)] _ (Nat.le_refl _) (by simp) (cells_one W x y 104)
  have e : mayE [(x, y)] = (partE x && partE y) := by unfold mayE; rw [List.all_cons, List.all_nil, Bool.and_true]
  rw [e] at h
  exact h
structure RB (w0 w : World) : Prop where
  b : Below w0.heap.size w0 w
theorem bits_keep {w0 w : World} (h : RB w0 w) (b : ByteArray) (r : Int) (hf : gauss_bits_s.f b = some r) :
    Calls Try.prog 71 #[.string b] w fun e w' => e = .returned (.int .u32 r) ∧ RB w0 w' := by
  refine (gauss_bits_s.calls b r w hf).mono ?_
  rintro e w' ⟨he, hb⟩
  exact ⟨he, ⟨below_step h.b hb.below⟩⟩
set_option maxHeartbeats 8000000 in
set_option maxRecDepth 100000 in
theorem gauss_Read.calls (b : ByteArray) (w : World) :
    Calls Try.prog 66 #[.string b] w fun e w' => e = .returned (.tuple #[.complex .f64 (readF b).1 (readF b).2.1, .int .i64 (readF b).2.2]) ∧ Below w.heap.size w w' := by
  by_cases h1 : b.size < 8
  · have h1b : decide ((b.size : Int) < 8) = true := decide_eq_true (by omega)
    rw [readF_short b h1]
    clear h1
    go_enter Try.func66, Try.ntmps66
    go_wp2
    go_ret2
    exact ⟨rfl, Below.refl _ _⟩
  · have h1b : decide ((b.size : Int) < 8) = false := decide_eq_false (by omega)
    by_cases h2 : b.size > 8
    · have h2b : decide (8 < (b.size : Int)) = true := decide_eq_true (by omega)
      rw [readF_long b h2]
      clear h1 h2
      go_enter Try.func66, Try.ntmps66
      go_wp2
      go_ret2
      exact ⟨rfl, Below.refl _ _⟩
    · have h2b : decide (8 < (b.size : Int)) = false := decide_eq_false (by omega)
      have h8 : b.size = 8 := by omega
      have hw1 := wd_lt b
      have e8 : b.extract 4 b.size = b.extract 4 8 := by rw [h8]
      have hw2 := wd_lt (b.extract 4 8)
      obtain ⟨g1, n1, p1, f1, r1⟩ := wide_run (wd b) hw1
      obtain ⟨g2, n2, p2, f2, r2⟩ := wide_run (wd (b.extract 4 8)) hw2
      have hno := readF_no b h8
      have hyes := readF_yes b h8
      rw [e8] at hno hyes
      have Hno := Aside0.mk hno
      have Hyes := Aside0.mk hyes
      clear hno hyes
      have HB1 := Aside0.mk (bits_ok b (by omega))
      have HB2 := Aside0.mk (bits_ok (b.extract 4 8) (by rw [ByteArray.size_extract]; omega))
      have q1 := float32frombits_run (wd b : Int)
      have q2 := float32frombits_run (wd (b.extract 4 8) : Int)
      rw [Int.toNat_natCast] at q1 q2
      have P1 := Aside0.mk p1
      have P2 := Aside0.mk p2
      have F1 := Aside0.mk f1
      have F2 := Aside0.mk f2
      clear p1 p2 f1 f2 h1 h2 hw1 hw2 e8
      have h4 : (4 ≤ (b.size : Int)) = True := eq_true (by omega)
      have h4n : (4 ≤ b.size) = True := eq_true (by omega)
      have h4s : ((b.size : Int) < 4) = False := eq_false (by omega)
      go_enter Try.func66, Try.ntmps66
      have HR : RB w w := ⟨Below.refl _ _⟩
      have hdr : ∀ w' n, RB w w' → RB w (w'.drewN n) := fun w' n h => ⟨pw_below_drewN h.b n⟩
      have hdr1 : ∀ w', RB w w' → RB w w'.drew := fun w' h => ⟨below_drew1 h.b⟩
      go_wp2_with (first | (fail))
      refine wp_region_noPanic ?_
      refine wp_region_held_drew (S := fun w' => RB w w') (by kernel_rfl) ?_ (fun hHeld => ?_)
      · exact hdr1 _ HR
      refine' wpAnyH_take (i := 0) (oi := _) (v := ?_) rfl (by kernel_rfl) (by kernel_rfl) (by kernel_rfl) (fun _ _ _ h => h) (Or.inl ⟨by rfl, ?_⟩) (by assumption) ?_
      rotate_left
      · intro w hSw; (try dsimp only at hSw); go_simp; first | done | with_reducible rfl
      try simp only [Act.put, List.setIfInBounds_toArray, List.set_cons_zero, List.set_cons_succ]
      refine' wpAnyH_take (i := 4) (oi := _) (v := ?_) rfl (by kernel_rfl) (by kernel_rfl) (by kernel_rfl) (fun _ _ _ h => h) (Or.inl ⟨by rfl, ?_⟩) (by assumption) ?_
      rotate_left
      · intro w hSw; (try dsimp only at hSw); go_simp; first | done | with_reducible rfl
      try simp only [Act.put, List.setIfInBounds_toArray, List.set_cons_zero, List.set_cons_succ]
      refine' wpAnyH_take (i := 5) (oi := _) (v := ?_) rfl (by kernel_rfl) (by kernel_rfl) (by kernel_rfl) (fun _ _ _ h => h) (Or.inl ⟨by rfl, ?_⟩) (by assumption) ?_
      rotate_left
      · intro w hSw; (try dsimp only at hSw); go_simp; first | done | with_reducible rfl
      try simp only [Act.put, List.setIfInBounds_toArray, List.set_cons_zero, List.set_cons_succ]
      refine wpAnyH_ready (rs := [1]) (by kernel_rfl) (by simp) ?_
      refine AllReadyH.cons (o := _) rfl (fun K hK => ?_) ?_
      · go_simp
        go_at_call 71
        refine (bits_keep (by assumption) b _ HB1.out).mono ?_
        rintro e w5 ⟨rfl, HR⟩
        go_wp2_with fail
        refine hK.out _ _ ?_ (fun hHeld => ?_)
        · (try dsimp only); first | assumption | go_keep
        clear hK K
        try simp only [Act.put, List.setIfInBounds_toArray, List.set_cons_zero, List.set_cons_succ]
        refine wpAnyH_ready (rs := [2]) (by kernel_rfl) (by simp) ?_
        refine AllReadyH.cons (o := _) rfl (fun K hK => ?_) ?_
        · go_simp
          refine hK.out _ _ ?_ (fun hHeld => ?_)
          · (try dsimp only); first | assumption | go_keep
          clear hK K
          try simp only [Act.put, List.setIfInBounds_toArray, List.set_cons_zero, List.set_cons_succ]
          refine wpAnyH_ready (rs := [3, 6]) (by kernel_rfl) (by simp) ?_
          refine AllReadyH.cons (o := _) rfl (fun K hK => ?_) ?_
          · go_simp
            refine hK.out _ _ ?_ (fun hHeld => ?_)
            · (try dsimp only); first | assumption | go_keep
            clear hK K
            try simp only [Act.put, List.setIfInBounds_toArray, List.set_cons_zero, List.set_cons_succ]
            refine wpAnyH_ready (rs := [6]) (by kernel_rfl) (by simp) ?_
            refine AllReadyH.cons (o := _) rfl (fun K hK => ?_) ?_
            · go_simp
              go_at_call 71
              refine (bits_keep (by assumption) (b.extract 4 8) _ HB2.out).mono ?_
              rintro e w5 ⟨rfl, HR⟩
              go_wp2_with fail
              refine hK.out _ _ ?_ (fun hHeld => ?_)
              · (try dsimp only); first | assumption | go_keep
              clear hK K
              try simp only [Act.put, List.setIfInBounds_toArray, List.set_cons_zero, List.set_cons_succ]
              refine wpAnyH_ready (rs := [7]) (by kernel_rfl) (by simp) ?_
              refine AllReadyH.cons (o := _) rfl (fun K hK => ?_) ?_
              · go_simp
                refine hK.out _ _ ?_ (fun hHeld => ?_)
                · (try dsimp only); first | assumption | go_keep
                clear hK K
                try simp only [Act.put, List.setIfInBounds_toArray, List.set_cons_zero, List.set_cons_succ]
                refine wpAnyH_ready (rs := [8]) (by kernel_rfl) (by simp) ?_
                refine AllReadyH.cons (o := _) rfl (fun K hK => ?_) ?_
                · go_simp
                  refine hK.out _ _ ?_ (fun hHeld => ?_)
                  · (try dsimp only); first | assumption | go_keep
                  clear hK K
                  try simp only [Act.put, List.setIfInBounds_toArray, List.set_cons_zero, List.set_cons_succ]
                  refine wpAnyH_ready (rs := [9]) (by kernel_rfl) (by simp) ?_
                  refine AllReadyH.cons (o := _) rfl (fun K hK => ?_) ?_
                  · go_simp
                    refine hK.out _ _ ?_ (fun hHeld => ?_)
                    · (try dsimp only); first | assumption | go_keep
                    clear hK K
                    try simp only [Act.put, List.setIfInBounds_toArray, List.set_cons_zero, List.set_cons_succ]
                    refine wpAnyH_ready (rs := [10]) (by kernel_rfl) (by simp) ?_
                    refine AllReadyH.cons (o := _) rfl (fun K hK => ?_) ?_
                    · go_simp
                      refine hK.out _ _ ?_ (fun hHeld => ?_)
                      · (try dsimp only); first | assumption | go_keep
                      clear hK K
                      try simp only [Act.put, List.setIfInBounds_toArray, List.set_cons_zero, List.set_cons_succ]
                      refine wpAnyH_done (by kernel_rfl) ?_ _
                      refine NoPanic.normal ?_
                      clear r1 r2 q1 q2
                      go_wp2_with (first | (fail))
                      refine (may_one _ _ _ _ rfl).mono ?_
                      rintro e wm ⟨rfl, rfl⟩
                      rw [P1.out, P2.out]
                      cases hm : ((wholeS (wd b)).2 && (wholeS (wd (b.extract 4 8))).2) with
                      | false =>
                        go_wp2_with (first | (fail))
                        go_ret2
                        exact ⟨by rw [Hno.out hm]; rfl, by repeat (first | exact HR.b | apply below_alloc | apply pw_below_drewN | apply below_drew1)⟩
                      | true =>
                        have hm2 := Bool.and_eq_true _ _ ▸ hm
                        go_wp2_with (first | (fail))
                        go_ret2
                        exact ⟨by rw [Hyes.out hm]; show Ending.returned (.tuple #[.complex .f64 (g1 _) (g2 _), .int .i64 0]) = _; rw [F1.out hm2.1, F2.out hm2.2], by repeat (first | exact HR.b | apply below_alloc | apply pw_below_drewN | apply below_drew1)⟩
                    exact AllReadyH.nil
                  exact AllReadyH.nil
                exact AllReadyH.nil
              exact AllReadyH.nil
            exact AllReadyH.nil
          refine AllReadyH.cons (o := _) rfl (fun K hK => ?_) ?_
          · go_simp
            go_at_call 71
            refine (bits_keep (by assumption) (b.extract 4 8) _ HB2.out).mono ?_
            rintro e w5 ⟨rfl, HR⟩
            go_wp2_with fail
            refine hK.out _ _ ?_ (fun hHeld => ?_)
            · (try dsimp only); first | assumption | go_keep
            clear hK K
            try simp only [Act.put, List.setIfInBounds_toArray, List.set_cons_zero, List.set_cons_succ]
            refine wpAnyH_ready (rs := [3, 7]) (by kernel_rfl) (by simp) ?_
            refine AllReadyH.cons (o := _) rfl (fun K hK => ?_) ?_
            · go_simp
              refine hK.out _ _ ?_ (fun hHeld => ?_)
              · (try dsimp only); first | assumption | go_keep
              clear hK K
              try simp only [Act.put, List.setIfInBounds_toArray, List.set_cons_zero, List.set_cons_succ]
              refine wpAnyH_ready (rs := [7]) (by kernel_rfl) (by simp) ?_
              refine AllReadyH.cons (o := _) rfl (fun K hK => ?_) ?_
              · go_simp
                refine hK.out _ _ ?_ (fun hHeld => ?_)
                · (try dsimp only); first | assumption | go_keep
                clear hK K
                try simp only [Act.put, List.setIfInBounds_toArray, List.set_cons_zero, List.set_cons_succ]
                refine wpAnyH_ready (rs := [8]) (by kernel_rfl) (by simp) ?_
                refine AllReadyH.cons (o := _) rfl (fun K hK => ?_) ?_
                · go_simp
                  refine hK.out _ _ ?_ (fun hHeld => ?_)
                  · (try dsimp only); first | assumption | go_keep
                  clear hK K
                  try simp only [Act.put, List.setIfInBounds_toArray, List.set_cons_zero, List.set_cons_succ]
                  refine wpAnyH_ready (rs := [9]) (by kernel_rfl) (by simp) ?_
                  refine AllReadyH.cons (o := _) rfl (fun K hK => ?_) ?_
                  · go_simp
                    refine hK.out _ _ ?_ (fun hHeld => ?_)
                    · (try dsimp only); first | assumption | go_keep
                    clear hK K
                    try simp only [Act.put, List.setIfInBounds_toArray, List.set_cons_zero, List.set_cons_succ]
                    refine wpAnyH_ready (rs := [10]) (by kernel_rfl) (by simp) ?_
                    refine AllReadyH.cons (o := _) rfl (fun K hK => ?_) ?_
                    · go_simp
                      refine hK.out _ _ ?_ (fun hHeld => ?_)
                      · (try dsimp only); first | assumption | go_keep
                      clear hK K
                      try simp only [Act.put, List.setIfInBounds_toArray, List.set_cons_zero, List.set_cons_succ]
                      refine wpAnyH_done (by kernel_rfl) ?_ _
                      refine NoPanic.normal ?_
                      clear r1 r2 q1 q2
                      go_wp2_with (first | (fail))
                      refine (may_one _ _ _ _ rfl).mono ?_
                      rintro e wm ⟨rfl, rfl⟩
                      rw [P1.out, P2.out]
                      cases hm : ((wholeS (wd b)).2 && (wholeS (wd (b.extract 4 8))).2) with
                      | false =>
                        go_wp2_with (first | (fail))
                        go_ret2
                        exact ⟨by rw [Hno.out hm]; rfl, by repeat (first | exact HR.b | apply below_alloc | apply pw_below_drewN | apply below_drew1)⟩
                      | true =>
                        have hm2 := Bool.and_eq_true _ _ ▸ hm
                        go_wp2_with (first | (fail))
                        go_ret2
                        exact ⟨by rw [Hyes.out hm]; show Ending.returned (.tuple #[.complex .f64 (g1 _) (g2 _), .int .i64 0]) = _; rw [F1.out hm2.1, F2.out hm2.2], by repeat (first | exact HR.b | apply below_alloc | apply pw_below_drewN | apply below_drew1)⟩
                    exact AllReadyH.nil
                  exact AllReadyH.nil
                exact AllReadyH.nil
              exact AllReadyH.nil
            refine AllReadyH.cons (o := _) rfl (fun K hK => ?_) ?_
            · go_simp
              refine hK.out _ _ ?_ (fun hHeld => ?_)
              · (try dsimp only); first | assumption | go_keep
              clear hK K
              try simp only [Act.put, List.setIfInBounds_toArray, List.set_cons_zero, List.set_cons_succ]
              refine wpAnyH_ready (rs := [3, 8]) (by kernel_rfl) (by simp) ?_
              refine AllReadyH.cons (o := _) rfl (fun K hK => ?_) ?_
              · go_simp
                refine hK.out _ _ ?_ (fun hHeld => ?_)
                · (try dsimp only); first | assumption | go_keep
                clear hK K
                try simp only [Act.put, List.setIfInBounds_toArray, List.set_cons_zero, List.set_cons_succ]
                refine wpAnyH_ready (rs := [8]) (by kernel_rfl) (by simp) ?_
                refine AllReadyH.cons (o := _) rfl (fun K hK => ?_) ?_
                · go_simp
                  refine hK.out _ _ ?_ (fun hHeld => ?_)
                  · (try dsimp only); first | assumption | go_keep
                  clear hK K
                  try simp only [Act.put, List.setIfInBounds_toArray, List.set_cons_zero, List.set_cons_succ]
                  refine wpAnyH_ready (rs := [9]) (by kernel_rfl) (by simp) ?_
                  refine AllReadyH.cons (o := _) rfl (fun K hK => ?_) ?_
                  · go_simp
                    refine hK.out _ _ ?_ (fun hHeld => ?_)
                    · (try dsimp only); first | assumption | go_keep
                    clear hK K
                    try simp only [Act.put, List.setIfInBounds_toArray, List.set_cons_zero, List.set_cons_succ]
                    refine wpAnyH_ready (rs := [10]) (by kernel_rfl) (by simp) ?_
                    refine AllReadyH.cons (o := _) rfl (fun K hK => ?_) ?_
                    · go_simp
                      refine hK.out _ _ ?_ (fun hHeld => ?_)
                      · (try dsimp only); first | assumption | go_keep
                      clear hK K
                      try simp only [Act.put, List.setIfInBounds_toArray, List.set_cons_zero, List.set_cons_succ]
                      refine wpAnyH_done (by kernel_rfl) ?_ _
                      refine NoPanic.normal ?_
                      clear r1 r2 q1 q2
                      go_wp2_with (first | (fail))
                      refine (may_one _ _ _ _ rfl).mono ?_
                      rintro e wm ⟨rfl, rfl⟩
                      rw [P1.out, P2.out]
                      cases hm : ((wholeS (wd b)).2 && (wholeS (wd (b.extract 4 8))).2) with
                      | false =>
                        go_wp2_with (first | (fail))
                        go_ret2
                        exact ⟨by rw [Hno.out hm]; rfl, by repeat (first | exact HR.b | apply below_alloc | apply pw_below_drewN | apply below_drew1)⟩
                      | true =>
                        have hm2 := Bool.and_eq_true _ _ ▸ hm
                        go_wp2_with (first | (fail))
                        go_ret2
                        exact ⟨by rw [Hyes.out hm]; show Ending.returned (.tuple #[.complex .f64 (g1 _) (g2 _), .int .i64 0]) = _; rw [F1.out hm2.1, F2.out hm2.2], by repeat (first | exact HR.b | apply below_alloc | apply pw_below_drewN | apply below_drew1)⟩
                    exact AllReadyH.nil
                  exact AllReadyH.nil
                exact AllReadyH.nil
              refine AllReadyH.cons (o := _) rfl (fun K hK => ?_) ?_
              · go_simp
                refine hK.out _ _ ?_ (fun hHeld => ?_)
                · (try dsimp only); first | assumption | go_keep
                clear hK K
                try simp only [Act.put, List.setIfInBounds_toArray, List.set_cons_zero, List.set_cons_succ]
                refine wpAnyH_ready (rs := [3]) (by kernel_rfl) (by simp) ?_
                refine AllReadyH.cons (o := _) rfl (fun K hK => ?_) ?_
                · go_simp
                  refine hK.out _ _ ?_ (fun hHeld => ?_)
                  · (try dsimp only); first | assumption | go_keep
                  clear hK K
                  try simp only [Act.put, List.setIfInBounds_toArray, List.set_cons_zero, List.set_cons_succ]
                  refine wpAnyH_ready (rs := [9]) (by kernel_rfl) (by simp) ?_
                  refine AllReadyH.cons (o := _) rfl (fun K hK => ?_) ?_
                  · go_simp
                    refine hK.out _ _ ?_ (fun hHeld => ?_)
                    · (try dsimp only); first | assumption | go_keep
                    clear hK K
                    try simp only [Act.put, List.setIfInBounds_toArray, List.set_cons_zero, List.set_cons_succ]
                    refine wpAnyH_ready (rs := [10]) (by kernel_rfl) (by simp) ?_
                    refine AllReadyH.cons (o := _) rfl (fun K hK => ?_) ?_
                    · go_simp
                      refine hK.out _ _ ?_ (fun hHeld => ?_)
                      · (try dsimp only); first | assumption | go_keep
                      clear hK K
                      try simp only [Act.put, List.setIfInBounds_toArray, List.set_cons_zero, List.set_cons_succ]
                      refine wpAnyH_done (by kernel_rfl) ?_ _
                      refine NoPanic.normal ?_
                      clear r1 r2 q1 q2
                      go_wp2_with (first | (fail))
                      refine (may_one _ _ _ _ rfl).mono ?_
                      rintro e wm ⟨rfl, rfl⟩
                      rw [P1.out, P2.out]
                      cases hm : ((wholeS (wd b)).2 && (wholeS (wd (b.extract 4 8))).2) with
                      | false =>
                        go_wp2_with (first | (fail))
                        go_ret2
                        exact ⟨by rw [Hno.out hm]; rfl, by repeat (first | exact HR.b | apply below_alloc | apply pw_below_drewN | apply below_drew1)⟩
                      | true =>
                        have hm2 := Bool.and_eq_true _ _ ▸ hm
                        go_wp2_with (first | (fail))
                        go_ret2
                        exact ⟨by rw [Hyes.out hm]; show Ending.returned (.tuple #[.complex .f64 (g1 _) (g2 _), .int .i64 0]) = _; rw [F1.out hm2.1, F2.out hm2.2], by repeat (first | exact HR.b | apply below_alloc | apply pw_below_drewN | apply below_drew1)⟩
                    exact AllReadyH.nil
                  exact AllReadyH.nil
                exact AllReadyH.nil
              exact AllReadyH.nil
            exact AllReadyH.nil
          exact AllReadyH.nil
        exact AllReadyH.nil
      exact AllReadyH.nil
end Go.Proofs.Ytfejdnkmmjffcaa.X
