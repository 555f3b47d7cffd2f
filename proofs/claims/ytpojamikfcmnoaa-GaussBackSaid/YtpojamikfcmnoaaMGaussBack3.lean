import Derived.Test.YtpojamikfcmnoaaMGaussBack0
import Derived.Test.YtpojamikfcmnoaaMGaussBack2
import Derived.Test.YtpojamikfcmnoaaMGaussBack1
import Derived.Laws.BitsLemmas
-- by xprint.py, a program of this session, over the kit's print.py
namespace Go.Proofs.Ytpojamikfcmnoaa.X
open Go.RowKit Go.Proofs.YtpojamikfcmnoaaW.PrintWords Go.Proofs.YtpojamikfcmnoaaW.PrintLast Go.Proofs.YtpojamikfcmnoaaW.PrintMore
attribute [local go_sem] max2_int min2_int max_two min_two max_three min_three max_four min_four   -- for this text's walks alone
set_option linter.unusedVariables false
set_option linter.unusedSimpArgs false

def mayR (a b : Int) : Bool := decide (-1048576 ≤ a ∧ a ≤ 1048576) && decide (-1048576 ≤ b ∧ b ≤ 1048576)
def putR (a b : Int) : ByteArray × Int := if mayR a b = true then (laidV (floatOfInt .f32 a) ++ laidV (floatOfInt .f32 b), 0) else (⟨#[]⟩, 17)
theorem mayE_F (a b : Int) (ha : -9007199254740992 < a ∧ a < 9007199254740992) (hb : -9007199254740992 < b ∧ b < 9007199254740992) : (partE (floatOfInt .f64 a) && partE (floatOfInt .f64 b)) = mayR a b := by
  rw [part_F a ha.1 ha.2, part_F b hb.1 hb.2]; rfl
theorem F32_lt (n : Int) : floatOfInt .f32 n < 4294967296 := Ieee.single.nearest_lt _ _ _
def doR (op a b c d : Int) : Int × Int × Int :=
  if (mayR a b && ((op == 3) || mayR c d)) = true then
    (let z : Int × Int := if op = 0 then (a + c, b + d) else if op = 1 then (a - c, b - d) else if op = 2 then (a * c - b * d, a * d + b * c) else (-a, -b)
     if mayR z.1 z.2 = true then (z.1, z.2, 0) else (0, 0, 17))
  else (0, 0, 17)
theorem mayR_of0 {a b : Int} (h : mayR a b = true) : (-1048576 ≤ a ∧ a ≤ 1048576) ∧ (-1048576 ≤ b ∧ b ≤ 1048576) := by
  unfold mayR at h
  simpa only [Bool.and_eq_true, decide_eq_true_eq] using h

end Go.Proofs.Ytpojamikfcmnoaa.X
-- by xprint.py, a program of this session, over the kit's print.py
namespace Go.Proofs.Ytpojamikfcmnoaa.X
open Go.RowKit Go.Proofs.YtpojamikfcmnoaaW.PrintWords Go.Proofs.YtpojamikfcmnoaaW.PrintLast Go.Proofs.YtpojamikfcmnoaaW.PrintMore
attribute [local go_sem] max2_int min2_int max_two min_two max_three min_three max_four min_four   -- for this text's walks alone
set_option linter.unusedVariables false
set_option linter.unusedSimpArgs false

/-! ### gauss_bits: function 61 -/
def gauss_bits.f (a0 : ByteArray) : Option (Int) := if 0 < (a0.size : Int) then (if 1 < (a0.size : Int) then (if 2 < (a0.size : Int) then (if 3 < (a0.size : Int) then (some (Go.bits .or .u32 (Go.bits .or .u32 (Go.bits .or .u32 ((bt a0 0) % 4294967296) ((((bt a0 1) % 4294967296) * 256) % 4294967296)) ((((bt a0 2) % 4294967296) * 65536) % 4294967296)) ((((bt a0 3) % 4294967296) * 16777216) % 4294967296))) else (none)) else (none)) else (none)) else (none)
set_option maxHeartbeats 8000000 in
set_option maxRecDepth 100000 in
theorem gauss_bits.calls (a0 : ByteArray) (r : Int) (w : World) (h : gauss_bits.f a0 = some r) :
    Calls Try.prog 61 #[.string a0] w fun e w' => e = .returned (.int .u32 r) ∧ Drawn0 w w' := by
  have H : (if 0 < (a0.size : Int) then (if 1 < (a0.size : Int) then (if 2 < (a0.size : Int) then (if 3 < (a0.size : Int) then (some (Go.bits .or .u32 (Go.bits .or .u32 (Go.bits .or .u32 ((bt a0 0) % 4294967296) ((((bt a0 1) % 4294967296) * 256) % 4294967296)) ((((bt a0 2) % 4294967296) * 65536) % 4294967296)) ((((bt a0 3) % 4294967296) * 16777216) % 4294967296))) else (none)) else (none)) else (none)) else (none)) = some r := h
  clear h
  by_cases c2 : 0 < (a0.size : Int)
  · rw [if_pos c2] at H
    have c2b0 : decide (0 < (a0.size : Int)) = true := decide_eq_true c2
    have c2b1 : decide (0 < a0.size) = true := decide_eq_true (by omega)
    clear c2
    by_cases c4 : 1 < (a0.size : Int)
    · rw [if_pos c4] at H
      have c4b0 : decide (1 < (a0.size : Int)) = true := decide_eq_true c4
      have c4b1 : decide (1 < a0.size) = true := decide_eq_true (by omega)
      clear c4
      by_cases c6 : 2 < (a0.size : Int)
      · rw [if_pos c6] at H
        have c6b0 : decide (2 < (a0.size : Int)) = true := decide_eq_true c6
        have c6b1 : decide (2 < a0.size) = true := decide_eq_true (by omega)
        clear c6
        by_cases c8 : 3 < (a0.size : Int)
        · rw [if_pos c8] at H
          have c8b0 : decide (3 < (a0.size : Int)) = true := decide_eq_true c8
          have c8b1 : decide (3 < a0.size) = true := decide_eq_true (by omega)
          clear c8
          obtain rfl := Option.some.inj H
          have p3 : 0 ≤ (0 : Int) := (by omega)
          have q3 : 0 < a0.size := (by have : (0 : Int) < (a0.size : Int) := of_decide_eq_true (by first | (with_reducible assumption) | assumption); omega)
          have hx3 : ∀ h : 0 < a0.size, ((a0[0]'h).toNat : Int) = bt a0 0 := bt_at a0 0
          clear p3
          have qi3 : (0 < (a0.size : Int)) = True := eq_true (of_decide_eq_true (by first | (with_reducible assumption) | assumption))
          replace q3 := eq_true q3
          have p5 : 0 ≤ (1 : Int) := (by omega)
          have q5 : 1 < a0.size := (by have : (1 : Int) < (a0.size : Int) := of_decide_eq_true (by first | (with_reducible assumption) | assumption); omega)
          have hx5 : ∀ h : 1 < a0.size, ((a0[1]'h).toNat : Int) = bt a0 1 := bt_at a0 1
          clear p5
          have qi5 : (1 < (a0.size : Int)) = True := eq_true (of_decide_eq_true (by first | (with_reducible assumption) | assumption))
          replace q5 := eq_true q5
          have p7 : 0 ≤ (2 : Int) := (by omega)
          have q7 : 2 < a0.size := (by have : (2 : Int) < (a0.size : Int) := of_decide_eq_true (by first | (with_reducible assumption) | assumption); omega)
          have hx7 : ∀ h : 2 < a0.size, ((a0[2]'h).toNat : Int) = bt a0 2 := bt_at a0 2
          clear p7
          have qi7 : (2 < (a0.size : Int)) = True := eq_true (of_decide_eq_true (by first | (with_reducible assumption) | assumption))
          replace q7 := eq_true q7
          have p9 : 0 ≤ (3 : Int) := (by omega)
          have q9 : 3 < a0.size := (by have : (3 : Int) < (a0.size : Int) := of_decide_eq_true (by first | (with_reducible assumption) | assumption); omega)
          have hx9 : ∀ h : 3 < a0.size, ((a0[3]'h).toNat : Int) = bt a0 3 := bt_at a0 3
          clear p9
          have qi9 : (3 < (a0.size : Int)) = True := eq_true (of_decide_eq_true (by first | (with_reducible assumption) | assumption))
          replace q9 := eq_true q9
          go_enter Try.func61, Try.ntmps61
          go_wp2
          repeat (go_quiet (fail); try go_wp2)
          go_ret
          exact ⟨by first | rfl | (simp; done) | (simp [*]; done), by repeat (first | exact Drawn0.refl _ | apply Drawn0.step)⟩
        · rw [if_neg c8] at H
          exact absurd H (by simp)
      · rw [if_neg c6] at H
        exact absurd H (by simp)
    · rw [if_neg c4] at H
      exact absurd H (by simp)
  · rw [if_neg c2] at H
    exact absurd H (by simp)

end Go.Proofs.Ytpojamikfcmnoaa.X
-- by xprint.py, a program of this session, over the kit's print.py
namespace Go.Proofs.Ytpojamikfcmnoaa.X
open Go.RowKit Go.Proofs.YtpojamikfcmnoaaW.PrintWords Go.Proofs.YtpojamikfcmnoaaW.PrintLast Go.Proofs.YtpojamikfcmnoaaW.PrintMore
attribute [local go_sem] max2_int min2_int max_two min_two max_three min_three max_four min_four   -- for this text's walks alone
set_option linter.unusedVariables false
set_option linter.unusedSimpArgs false

def wd (b : ByteArray) : Nat := ((bt b 0) + (bt b 1) * 256 + (bt b 2) * 65536 + (bt b 3) * 16777216).toNat
theorem wd_eq (b : ByteArray) : ((wd b : Nat) : Int) = (bt b 0) + (bt b 1) * 256 + (bt b 2) * 65536 + (bt b 3) * 16777216 := by
  have h0 := bt_range b 0
  have h1 := bt_range b 1
  have h2 := bt_range b 2
  have h3 := bt_range b 3
  unfold wd; omega
theorem wd_lt (b : ByteArray) : wd b < 4294967296 := by
  have h := wd_eq b
  have h0 := bt_range b 0
  have h1 := bt_range b 1
  have h2 := bt_range b 2
  have h3 := bt_range b 3
  omega
theorem or_low (x y : Int) (i : Nat) (hx0 : 0 ≤ x) (hx : x < 2 ^ i) (hy0 : 0 ≤ y) (hy : y % 2 ^ i = 0) (hx1 : x < 4294967296) (hy1 : y < 4294967296) : Go.bits .or .u32 x y = x + y := by
  have hc : Go.bits .or .u32 x y = Go.bits .or .u32 y x := by simp only [Go.bits, BitVec.or_comm]
  rw [hc, bits_join .u32 32 (by decide) (fun n h0 h1 => by rw [IntKind.wrap_u32]; omega) i y x hy0 hy (by omega) hx0 hx (by omega)]
  omega
theorem wd_extract (b : ByteArray) (h : 4 ≤ b.size) : wd (b.extract 0 4) = wd b := by
  have e : ∀ i : Nat, i < 4 → bt (b.extract 0 4) (i : Int) = bt b (i : Int) := by
    intro i hi
    have h1 : i < (b.extract 0 4).size := by rw [ByteArray.size_extract]; omega
    have h2 : i < b.size := by omega
    unfold bt
    simp only [Int.toNat_natCast]
    rw [dif_pos h1, dif_pos h2, ByteArray.getElem_extract]
    simp only [Nat.zero_add]
  unfold wd
  rw [show (0 : Int) = ((0 : Nat) : Int) from rfl, show (1 : Int) = ((1 : Nat) : Int) from rfl, show (2 : Int) = ((2 : Nat) : Int) from rfl, show (3 : Int) = ((3 : Nat) : Int) from rfl, e 0 (by decide), e 1 (by decide), e 2 (by decide), e 3 (by decide)]

end Go.Proofs.Ytpojamikfcmnoaa.X
-- by xprint.py, a program of this session, over the kit's print.py
namespace Go.Proofs.Ytpojamikfcmnoaa.X
open Go.RowKit Go.Proofs.YtpojamikfcmnoaaW.PrintWords Go.Proofs.YtpojamikfcmnoaaW.PrintLast Go.Proofs.YtpojamikfcmnoaaW.PrintMore
attribute [local go_sem] max2_int min2_int max_two min_two max_three min_three max_four min_four   -- for this text's walks alone
set_option linter.unusedVariables false
set_option linter.unusedSimpArgs false

def gauss_bits_s.f (a0 : ByteArray) : Option Int := if 4 ≤ a0.size then some (wd a0 : Int) else none
theorem gauss_bits_s.ev (a0 : ByteArray) (r) (h : gauss_bits_s.f a0 = some r) : ∃ k : Nat, gauss_bits.f a0 = some r := by
  refine ⟨0, ?_⟩
  unfold gauss_bits_s.f at h
  split at h
  · rename_i hs
    rw [← h]
    unfold gauss_bits.f
    have h0 := bt_range a0 0
    have h1 := bt_range a0 1
    have h2 := bt_range a0 2
    have h3 := bt_range a0 3
    rw [if_pos (by omega), if_pos (by omega), if_pos (by omega), if_pos (by omega), wd_eq]
    generalize bt a0 0 = x0 at *
    generalize bt a0 1 = x1 at *
    generalize bt a0 2 = x2 at *
    generalize bt a0 3 = x3 at *
    rw [show x0 % 4294967296 = x0 by omega, show x1 % 4294967296 * 256 % 4294967296 = x1 * 256 by omega, show x2 % 4294967296 * 65536 % 4294967296 = x2 * 65536 by omega, show x3 % 4294967296 * 16777216 % 4294967296 = x3 * 16777216 by omega,
      or_low x0 (x1 * 256) 8 (by omega) (by omega) (by omega) (by omega) (by omega) (by omega), or_low (x0 + x1 * 256) (x2 * 65536) 16 (by omega) (by omega) (by omega) (by omega) (by omega) (by omega), or_low (x0 + x1 * 256 + x2 * 65536) (x3 * 16777216) 24 (by omega) (by omega) (by omega) (by omega) (by omega) (by omega)]
  · cases h

set_option maxHeartbeats 1000000 in
theorem gauss_bits_s.calls (a0 : ByteArray) (r : Int) (w : World) (h : gauss_bits_s.f a0 = some r) :
    Calls Try.prog 61 #[.string a0] w fun e w' => e = .returned (.int .u32 r) ∧ Drawn0 w w' := by
  obtain ⟨k, hk⟩ := gauss_bits_s.ev a0 _ h
  exact gauss_bits.calls a0 r w hk

end Go.Proofs.Ytpojamikfcmnoaa.X
-- by xprint.py, a program of this session, over the kit's print.py
namespace Go.Proofs.Ytpojamikfcmnoaa.X
open Go.RowKit Go.Proofs.YtpojamikfcmnoaaW.PrintWords Go.Proofs.YtpojamikfcmnoaaW.PrintLast Go.Proofs.YtpojamikfcmnoaaW.PrintMore
attribute [local go_sem] max2_int min2_int max_two min_two max_three min_three max_four min_four   -- for this text's walks alone
set_option linter.unusedVariables false
set_option linter.unusedSimpArgs false

def wholeS (v : Nat) : Int × Bool :=
  if v = 0 then (0, true)
  else if v / 8388608 % 256 < 127 ∨ v / 8388608 % 256 > 147 then (0, false)
  else if (v % 8388608 + 8388608) % 2 ^ (150 - v / 8388608 % 256) = 0 then (sgn (decide (v ≥ 2147483648)) ((v % 8388608 + 8388608) / 2 ^ (150 - v / 8388608 % 256)), decide ((v % 8388608 + 8388608) / 2 ^ (150 - v / 8388608 % 256) ≤ 1048576))
  else (0, false)
/-- the word of a single, made a double (a NaN is none) -/
def wideV (v : Nat) : Nat := Ieee.double.write (Ieee.single.read v)
theorem read_single (v : Nat) (hv : v < 4294967296) : Ieee.single.read v =
    (if v % 2147483648 < 8388608 then .number (decide (v ≥ 2147483648)) (v % 2147483648) (-149)
     else if v % 2147483648 < 2139095040 then .number (decide (v ≥ 2147483648)) (8388608 + v % 8388608) (-149 + ((v / 8388608 % 256 - 1 : Nat) : Int))
     else if v % 2147483648 = 2139095040 then .infinity (decide (v ≥ 2147483648))
     else .nan (decide (v ≥ 2147483648)) (v % 2147483648 - 2139095040)) := by
  have hb : Ieee.single.binade = 8388608 := by decide
  have hi : Ieee.single.infRung = 2139095040 := by decide
  have hs : Ieee.single.signWeight = 2147483648 := by decide
  unfold Ieee.Format.read
  dsimp only
  rw [hb, hi, hs, sl]
  have e1 : (v / 2147483648 % 2 == 1) = decide (v ≥ 2147483648) := by
    rw [Bool.eq_iff_iff, beq_iff_eq, decide_eq_true_iff]; omega
  have e2 : v % 2147483648 % 8388608 = v % 8388608 := by omega
  have e3 : v % 2147483648 / 8388608 = v / 8388608 % 256 := by omega
  rw [e1, e2, e3]
theorem wide_number {v : Nat} {s : Bool} {m : Nat} {p : Int} (h : Ieee.single.read v = .number s m p) (hp : p ≤ 104) : Num Ieee.double (wideV v) s (m * 2 ^ (p + 1074).toNat) ∧ wideV v = Ieee.double.nearest s m p := by
  obtain ⟨h1, h2⟩ := read_small h
  rw [sl] at h2
  have hb : Ieee.single.binade = 8388608 := by decide
  rw [hb] at h1
  have e : wideV v = Ieee.double.nearest s m p := by unfold wideV; rw [h]; rfl
  refine ⟨?_, e⟩
  rw [e]
  have hl : m.log2 ≤ 24 := by
    by_cases h0 : m = 0
    · subst h0; decide
    · have := (Nat.log2_lt h0).2 (show m < 2 ^ 24 by omega); omega
  have := num_nearest Ieee.double s m p (by rw [dl]; omega) (by show m < 2 ^ 53; omega) (by
    rw [dl]
    show (p + (m.log2 : Int) - ((52 : Nat) : Int) - (-1074)).toNat + 3 ≤ 2 ^ 11
    omega)
  rw [dl, Int.sub_neg] at this
  exact this
theorem wide_lt (v : Nat) : wideV v < 18446744073709551616 := Ieee.double.write_lt _
theorem Ubig_cut (e : Nat) (h : e ≤ 1074) : Ubig = 2 ^ (1074 - e) * 2 ^ e := by
  have : ∀ E, E = 1074 → Ubig = 2 ^ E := fun E hE => by rw [hE]; exact Ubig_eq
  rw [this (1074 - e + e) (by omega), Nat.pow_add]
/-- a multiple -/
theorem part_wide (x : Nat) (hx : x < 18446744073709551616) (s : Bool) (m j : Nat) (hj : j ≤ 1074) (hm : 0 < m) (h : Num Ieee.double x s (m * 2 ^ (1074 - j))) :
    (m % 2 ^ j = 0 → IntF x s (m / 2 ^ j)) ∧ partE x = (decide (m % 2 ^ j = 0) && decide (m / 2 ^ j ≤ 1048576)) := by
  have hU := Ubig_cut j hj
  have hA : 0 < 2 ^ (1074 - j) := Nat.two_pow_pos _
  have hJ : 0 < 2 ^ j := Nat.two_pow_pos _
  have hd : m * 2 ^ (1074 - j) / Ubig = m / 2 ^ j := by
    rw [hU, Nat.mul_comm (2 ^ (1074 - j)), Nat.mul_div_mul_right _ _ hA]
  have hmul : ∀ q, q * Ubig = q * 2 ^ j * 2 ^ (1074 - j) := fun q => by rw [hU, Nat.mul_comm (2 ^ (1074 - j)), Nat.mul_assoc]
  have hdm := Nat.div_add_mod m (2 ^ j)
  rw [Nat.mul_comm] at hdm
  have hI : m % 2 ^ j = 0 → IntF x s (m / 2 ^ j) := by
    intro g
    unfold IntF
    rw [hmul]
    have : m / 2 ^ j * 2 ^ j = m := by omega
    rw [this]; exact h
  refine ⟨hI, ?_⟩
  by_cases g : m % 2 ^ j = 0
  · rw [part_int hx (hI g), decide_eq_true g, Bool.true_and]
    have : m / 2 ^ j ≠ 0 := by
      intro h0
      rw [h0, Nat.zero_mul] at hdm; omega
    rw [decide_eq_true this, Bool.true_or, Bool.and_true]
  · rw [part_num hx h, decide_eq_false g, Bool.false_and, hd, hmul (m / 2 ^ j)]
    have : ¬ (m / 2 ^ j * 2 ^ j * 2 ^ (1074 - j) = m * 2 ^ (1074 - j)) := by
      intro e
      have := Nat.eq_of_mul_eq_mul_right hA e
      omega
    rw [decide_eq_false this, Bool.false_and, Bool.and_false]
theorem whole_wide (v : Nat) (hv : v < 4294967296) (hn : (Ieee.single.read v).isNaN = false) : partE (wideV v) = (wholeS v).2 ∧ ((wholeS v).2 = true → wideV v = floatOfInt .f64 (wholeS v).1 ∧ (-1048576 ≤ (wholeS v).1 ∧ (wholeS v).1 ≤ 1048576) ∧ v = floatOfInt .f32 (wholeS v).1) := by
  have hr := read_single v hv
  have hx := wide_lt v
  by_cases h0 : v = 0
  · subst h0
    have ew : wideV 0 = floatOfInt .f64 0 := by decide +kernel
    have es : wholeS 0 = (0, true) := by unfold wholeS; rw [if_pos rfl]
    rw [es, ew, part_F 0 (by decide) (by decide)]
    refine ⟨by decide, fun _ => ⟨rfl, by decide, by decide +kernel⟩⟩
  by_cases hE : v / 8388608 % 256 < 127 ∨ v / 8388608 % 256 > 147
  · have es : wholeS v = (0, false) := by unfold wholeS; rw [if_neg h0, if_pos hE]
    rw [es]
    refine ⟨?_, fun h => by cases h⟩
    by_cases h1 : v % 2147483648 < 8388608
    · rw [if_pos h1] at hr
      have hw := (wide_number hr (by decide)).1
      obtain ⟨E, hE2⟩ : ∃ E : Nat, E = 149 := ⟨_, rfl⟩
      rw [show ((-149 : Int) + 1074).toNat = 1074 - E by omega] at hw
      by_cases hz : v % 2147483648 = 0
      · rw [hz, Nat.zero_mul] at hw
        rw [part_num hx hw, decide_eq_true (show v ≥ 2147483648 by omega)]
        simp
      · rw [(part_wide _ hx _ _ E (by omega) (by omega) hw).2]
        have : ¬ v % 2147483648 % 2 ^ E = 0 := by
          rw [Nat.mod_eq_of_lt (Nat.lt_of_lt_of_le (show v % 2147483648 < 2 ^ 23 by omega) (Nat.pow_le_pow_right (by decide) (by omega)))]
          exact hz
        rw [decide_eq_false this, Bool.false_and]
    · rw [if_neg h1] at hr
      by_cases h2 : v % 2147483648 < 2139095040
      · rw [if_pos h2] at hr
        have hw := (wide_number hr (by omega)).1
        by_cases h3 : v / 8388608 % 256 < 127
        · rw [show (-149 + ((v / 8388608 % 256 - 1 : Nat) : Int) + 1074).toNat = 1074 - (150 - v / 8388608 % 256) by omega] at hw
          rw [(part_wide _ hx _ _ (150 - v / 8388608 % 256) (by omega) (by omega) hw).2]
          have : ¬ (8388608 + v % 8388608) % 2 ^ (150 - v / 8388608 % 256) = 0 := by
            rw [Nat.mod_eq_of_lt (Nat.lt_of_lt_of_le (show 8388608 + v % 8388608 < 2 ^ 24 by omega) (Nat.pow_le_pow_right (by decide) (by omega)))]
            omega
          rw [decide_eq_false this, Bool.false_and]
        · have hbig : ¬ ((8388608 + v % 8388608) * 2 ^ (-149 + ((v / 8388608 % 256 - 1 : Nat) : Int) + 1074).toNat ≤ 1048576 * Ubig) := by
            obtain ⟨E, hE2⟩ : ∃ E : Nat, E = 2 := ⟨_, rfl⟩
            have hU := Ubig_cut E (by omega)
            have hle : 2 ^ (1074 - E) ≤ 2 ^ (-149 + ((v / 8388608 % 256 - 1 : Nat) : Int) + 1074).toNat := Nat.pow_le_pow_right (by decide) (by omega)
            have hA : 0 < 2 ^ (1074 - E) := Nat.two_pow_pos _
            generalize 2 ^ (1074 - E) = A at hU hle hA
            rw [hE2] at hU
            generalize 2 ^ (-149 + ((v / 8388608 % 256 - 1 : Nat) : Int) + 1074).toNat = B at hle
            have h5 : 8388608 * A ≤ (8388608 + v % 8388608) * B := Nat.mul_le_mul (by omega) hle
            rw [hU]; omega
          rw [part_num hx hw, decide_eq_false hbig, Bool.false_and]
      · rw [if_neg h2] at hr
        by_cases h3 : v % 2147483648 = 2139095040
        · rw [if_pos h3] at hr
          have hi : Ieee.double.read (wideV v) = .infinity (decide (v ≥ 2147483648)) := by
            unfold wideV; rw [hr]
            generalize decide (v ≥ 2147483648) = s
            cases s <;> decide +kernel
          unfold partE
          rw [order_inf hi cN, order_inf hi cP]
          generalize decide (v ≥ 2147483648) = s
          cases s <;> rfl
        · rw [if_neg h3] at hr
          rw [hr] at hn; cases hn
  · have h1 : ¬ v % 2147483648 < 8388608 := by omega
    have h2 : v % 2147483648 < 2139095040 := by omega
    rw [if_neg h1, if_pos h2] at hr
    obtain ⟨hw, ew⟩ := wide_number hr (by omega)
    rw [show (-149 + ((v / 8388608 % 256 - 1 : Nat) : Int) + 1074).toNat = 1074 - (150 - v / 8388608 % 256) by omega, Nat.add_comm 8388608] at hw
    obtain ⟨p1, p2⟩ := part_wide _ hx _ _ (150 - v / 8388608 % 256) (by omega) (by omega) hw
    by_cases g : (v % 8388608 + 8388608) % 2 ^ (150 - v / 8388608 % 256) = 0
    · have es : wholeS v = (sgn (decide (v ≥ 2147483648)) ((v % 8388608 + 8388608) / 2 ^ (150 - v / 8388608 % 256)), decide ((v % 8388608 + 8388608) / 2 ^ (150 - v / 8388608 % 256) ≤ 1048576)) := by
        unfold wholeS; rw [if_neg h0, if_neg hE, if_pos g]
      rw [es, p2, decide_eq_true g, Bool.true_and]
      refine ⟨rfl, fun hk => ?_⟩
      have hk : (v % 8388608 + 8388608) / 2 ^ (150 - v / 8388608 % 256) ≤ 1048576 := of_decide_eq_true hk
      have hi := p1 g
      have hdm := Nat.div_add_mod (v % 8388608 + 8388608) (2 ^ (150 - v / 8388608 % 256))
      rw [g, Nat.add_zero, Nat.mul_comm] at hdm
      generalize hK : (v % 8388608 + 8388608) / 2 ^ (150 - v / 8388608 % 256) = K at hk hi hdm ⊢
      have hK0 : K ≠ 0 := by
        intro h; rw [h, Nat.zero_mul] at hdm; omega
      have hsg : ∀ s : Bool, decide (sgn s K < 0) = s ∧ (sgn s K).natAbs = K := by
        intro s
        refine ⟨?_, sgn_abs s K⟩
        unfold sgn; cases s <;> simp <;> omega
      refine ⟨?_, ?_, ?_⟩
      · rw [F_eq, (hsg _).1, (hsg _).2, ew]
        refine dI_of (by omega) ?_
        have hU := Ubig_cut (150 - v / 8388608 % 256) (by omega)
        rw [show (-149 + ((v / 8388608 % 256 - 1 : Nat) : Int) + 1074).toNat = 1074 - (150 - v / 8388608 % 256) by omega, hU, Nat.mul_comm (2 ^ (1074 - _)), ← Nat.mul_assoc, hdm, Nat.add_comm]
      · unfold sgn; split <;> omega
      · have hn0 : sgn (decide (v ≥ 2147483648)) K ≠ 0 := by
          unfold sgn; split <;> omega
        rw [F32_word _ hn0 (by rw [sgn_abs]; omega), sgn_abs]
        have hlog : K.log2 = 23 - (150 - v / 8388608 % 256) := by
          rw [Nat.log2_eq_iff hK0]
          have hJ : 0 < 2 ^ (150 - v / 8388608 % 256) := Nat.two_pow_pos _
          constructor
          · refine Nat.le_of_mul_le_mul_right ?_ hJ
            rw [hdm, ← Nat.pow_add, show 23 - (150 - v / 8388608 % 256) + (150 - v / 8388608 % 256) = 23 by omega]
            omega
          · refine Nat.lt_of_mul_lt_mul_right (a := 2 ^ (150 - v / 8388608 % 256)) ?_
            rw [hdm, ← Nat.pow_add, show 23 - (150 - v / 8388608 % 256) + 1 + (150 - v / 8388608 % 256) = 24 by omega]
            omega
        rw [hlog, show 23 - (23 - (150 - v / 8388608 % 256)) = 150 - v / 8388608 % 256 by omega, hdm]
        have hneg : (sgn (decide (v ≥ 2147483648)) K < 0) ↔ v ≥ 2147483648 := by
          have := (hsg (decide (v ≥ 2147483648))).1
          rwa [decide_eq_decide] at this
        by_cases hs : v ≥ 2147483648
        · rw [if_pos (hneg.2 hs)]; omega
        · rw [if_neg (fun h => hs (hneg.1 h))]; omega
    · have es : wholeS v = (0, false) := by unfold wholeS; rw [if_neg h0, if_neg hE, if_neg g]
      rw [es, p2, decide_eq_false g]
      exact ⟨rfl, fun h => by cases h⟩

end Go.Proofs.Ytpojamikfcmnoaa.X
