import Derived.Test.YtpojamikfcmnoaaMGaussReads0
import Derived.Test.YtpojamikfcmnoaaMGaussReads5
import Derived.Test.YtpojamikfcmnoaaMGaussReads6
import Derived.Test.YtpojamikfcmnoaaMGaussReads2
import Derived.Test.YtpojamikfcmnoaaMGaussReads3
import Derived.Test.YtpojamikfcmnoaaMGaussReads4
import Derived.Test.YtpojamikfcmnoaaMGaussReads1
-- by xprint.py, a program of this session, over the kit's print.py
namespace Go.Proofs.Ytpojamikfcmnoaa.X
open Go.RowKit Go.Proofs.YtpojamikfcmnoaaW.PrintWords Go.Proofs.YtpojamikfcmnoaaW.PrintLast Go.Proofs.YtpojamikfcmnoaaW.PrintMore
attribute [local go_sem] max2_int min2_int max_two min_two max_three min_three max_four min_four   -- for this text's walks alone
set_option linter.unusedVariables false
set_option linter.unusedSimpArgs false

def readR (b : ByteArray) : Int × Int × Int :=
  if b.size < 8 then (0, 0, 1) else if b.size > 8 then (0, 0, 2)
  else if ((wholeS (wd b)).2 && (wholeS (wd (b.extract 4 b.size))).2) = true then ((wholeS (wd b)).1, (wholeS (wd (b.extract 4 b.size))).1, 0) else (0, 0, 17)
theorem nan_word (t : Nat) : ∃ n, Ieee.double.read ((t % 2) * 2 ^ 63 + 0x7ff0000000000000 + 1 + (t / 2) % (2 ^ 52 - 1)) = .nan ((t % 2) == 1) n := by
  have hb : Ieee.double.binade = 4503599627370496 := by decide
  have hi : Ieee.double.infRung = 9218868437227405312 := by decide
  have hs : Ieee.double.signWeight = 9223372036854775808 := by decide
  have e1 : (2 : Nat) ^ 63 = 9223372036854775808 := by decide
  have e2 : (2 : Nat) ^ 52 - 1 = 4503599627370495 := by decide
  rw [e1, e2]
  have hr : t / 2 % 4503599627370495 < 4503599627370495 := Nat.mod_lt _ (by decide)
  have ht : t % 2 < 2 := Nat.mod_lt _ (by decide)
  generalize t / 2 % 4503599627370495 = r at hr
  generalize t % 2 = s at ht
  unfold Ieee.Format.read
  dsimp only
  rw [hb, hi, hs]
  have d1 : (s * 9223372036854775808 + 9218868437227405312 + 1 + r) / 9223372036854775808 % 2 = s := by omega
  have d2 : (s * 9223372036854775808 + 9218868437227405312 + 1 + r) % 9223372036854775808 = 9218868437227405312 + 1 + r := by omega
  rw [d1, d2, if_neg (by omega), if_neg (by omega), if_neg (by omega)]
  exact ⟨_, rfl⟩
theorem nan_part (x : Nat) (h : ∃ s n, Ieee.double.read x = .nan s n) : partE x = false := by
  obtain ⟨s, n, h⟩ := h
  unfold partE
  rw [order_nan h]; rfl
theorem whole_nan (v : Nat) (hv : v < 4294967296) (hn : (Ieee.single.read v).isNaN = true) : (wholeS v).2 = false := by
  have hr := read_single v hv
  by_cases h1 : v % 2147483648 < 8388608
  · rw [if_pos h1] at hr; rw [hr] at hn; cases hn
  · rw [if_neg h1] at hr
    by_cases h2 : v % 2147483648 < 2139095040
    · rw [if_pos h2] at hr; rw [hr] at hn; cases hn
    · unfold wholeS
      rw [if_neg (by omega), if_pos (Or.inr (by omega))]
/-- a single made a double: what may be said of it at any world -/
theorem wide_run (v : Nat) (hv : v < 4294967296) : ∃ (g : World → Nat) (k : Nat), (∀ w, partE (g w) = (wholeS v).2) ∧ ((wholeS v).2 = true → ∀ w, g w = floatOfInt .f64 (wholeS v).1) ∧ ∀ w, (convert 96 47 (.float .f32 v)).run Try.prog w = .ok (.float .f64 (g w)) (w.drewN k) := by
  cases hn : (Ieee.single.read v).isNaN with
  | false =>
    obtain ⟨h1, h2⟩ := whole_wide v hv hn
    refine ⟨fun _ => wideV v, 0, fun _ => h1, fun h _ => (h2 h).1, fun w => ?_⟩
    refine run_convert_float_float w 96 47 .f32 .f64 v (wideV v) (by rw [Try.underlying96]; rfl) Try.underlying47 ?_
    unfold floatToFloatBits
    rw [if_neg (by decide)]
    have ed : FloatKind.f32.decode v = Ieee.single.read v := rfl
    rw [ed]
    cases hr : Ieee.single.read v with
    | nan s n => rw [hr] at hn; cases hn
    | infinity s => show some (Ieee.double.write (.infinity s)) = some (wideV v); unfold wideV; rw [hr]
    | number s m p =>
      have hp : p ≤ 104 := by
        have h3 := read_single v hv
        rw [hr] at h3
        split at h3
        · cases h3; decide
        · split at h3
          · cases h3; omega
          · split at h3 <;> cases h3
      obtain ⟨⟨m', p', e, _, _⟩, ew⟩ := wide_number hr hp
      have e3 : FloatKind.f64.encode (.number s m p) = wideV v := ew.symm
      have e4 : FloatKind.f64.decode (wideV v) = .number s m' p' := e
      show (if (FloatKind.f64.decode (FloatKind.f64.encode (.number s m p))).isInfinity then none else some (FloatKind.f64.encode (.number s m p))) = some (wideV v)
      rw [e3, e4]; rfl
  | true =>
    refine ⟨fun w => (Question.nanConv .f64 v).cut (w.tape w.drawn (Question.nanConv .f64 v)), 1, fun w => ?_, fun h => ?_, fun w => ?_⟩
    · rw [whole_nan v hv hn]
      obtain ⟨n, h⟩ := nan_word (w.tape w.drawn (Question.nanConv .f64 v))
      exact nan_part _ ⟨_, n, h⟩
    · rw [whole_nan v hv hn] at h; cases h
    · have ed : FloatKind.f32.decode v = Ieee.single.read v := rfl
      cases hr : Ieee.single.read v with
      | infinity s => rw [hr] at hn; cases hn
      | number s m p => rw [hr] at hn; cases hn
      | nan s n =>
        have hs : Try.prog.underlying 96 = some (.float .f32) := Try.underlying96
        simp [convert, run_underlying hs, run_underlying Try.underlying47, Conv.floatToFloat, ed, hr, Question.forced, World.drewN]

end Go.Proofs.Ytpojamikfcmnoaa.X
-- by xprint.py, a program of this session, over the kit's print.py
namespace Go.Proofs.Ytpojamikfcmnoaa.X
open Go.RowKit Go.Proofs.YtpojamikfcmnoaaW.PrintWords Go.Proofs.YtpojamikfcmnoaaW.PrintLast Go.Proofs.YtpojamikfcmnoaaW.PrintMore
attribute [local go_sem] max2_int min2_int max_two min_two max_three min_three max_four min_four   -- for this text's walks alone
set_option linter.unusedVariables false
set_option linter.unusedSimpArgs false

def agateref06_Read_s.f (a0 : ByteArray) : Option (Int × Int × Int) := some (readR a0)
theorem agateref06_Read_s.ev (a0 : ByteArray) (r) (h : agateref06_Read_s.f a0 = some r) : ∃ k : Nat, agateref06_Read.f a0 = some r := by
  refine ⟨0, ?_⟩
  rw [← h]
  unfold agateref06_Read.f agateref06_Read_s.f readR
  by_cases h1 : a0.size < 8
  · rw [if_pos (by omega), if_pos h1]
  · rw [if_neg (by omega), if_neg h1]
    by_cases h2 : a0.size > 8
    · rw [if_pos (by omega), if_pos h2]
    · rw [if_neg (by omega), if_neg h2, if_pos (by decide), if_pos (by omega)]
      have e1 : agateref06_word_s.f (a0.extract 0 4) = some (wd a0 : Int) := by
        rw [← wd_extract a0 (by omega)]
        exact if_pos (by rw [ByteArray.size_extract]; omega)
      have e2 : agateref06_word_s.f (a0.extract 4 a0.size) = some (wd (a0.extract 4 a0.size) : Int) := if_pos (by rw [ByteArray.size_extract]; omega)
      have e3 : agateref06_whole.f (wd a0 : Int) = some (wholeS (wd a0)) := by
        unfold agateref06_whole.f
        rw [if_pos (by have := wd_lt a0; omega), Int.toNat_natCast]
      have e4 : agateref06_whole.f (wd (a0.extract 4 a0.size) : Int) = some (wholeS (wd (a0.extract 4 a0.size))) := by
        unfold agateref06_whole.f
        rw [if_pos (by have := wd_lt (a0.extract 4 a0.size); omega), Int.toNat_natCast]
      rw [e1, Option.bind_some, e3, Option.bind_some, e2, Option.bind_some, e4, Option.bind_some]
      cases (wholeS (wd a0)).2 <;> cases (wholeS (wd (a0.extract 4 a0.size))).2 <;> rfl

set_option maxHeartbeats 1000000 in
theorem agateref06_Read_s.calls (a0 : ByteArray) (r1 : Int) (r2 : Int) (r3 : Int) (w : World) (h : agateref06_Read_s.f a0 = some (r1, r2, r3)) :
    Calls Try.prog 25 #[.string a0] w fun e w' => e = .returned (.tuple #[.agg #[.int .i64 r1, .int .i64 r2], .int .i64 r3]) ∧ Below w.heap.size w w' := by
  obtain ⟨k, hk⟩ := agateref06_Read_s.ev a0 _ h
  exact agateref06_Read.calls a0 r1 r2 r3 w hk

end Go.Proofs.Ytpojamikfcmnoaa.X
-- by xprint.py, a program of this session, over the kit's print.py
namespace Go.Proofs.Ytpojamikfcmnoaa.X
open Go.RowKit Go.Proofs.YtpojamikfcmnoaaW.PrintWords Go.Proofs.YtpojamikfcmnoaaW.PrintLast Go.Proofs.YtpojamikfcmnoaaW.PrintMore
attribute [local go_sem] max2_int min2_int max_two min_two max_three min_three max_four min_four   -- for this text's walks alone
set_option linter.unusedVariables false
set_option linter.unusedSimpArgs false

/-! ### gauss_bits: function 61 -/
def gauss_bits.f (a0 : ByteArray) : Option (Int) := if 0 < (a0.size : Int) then (if 1 < (a0.size : Int) then (if 2 < (a0.size : Int) then (if 3 < (a0.size : Int) then (some (Go.bits .or .u32 (Go.bits .or .u32 (Go.bits .or .u32 ((bt a0 0) % 4294967296) ((((bt a0 1) % 4294967296) * 256) % 4294967296)) ((((bt a0 2) % 4294967296) * 65536) % 4294967296)) ((((bt a0 3) % 4294967296) * 16777216) % 4294967296))) else (none)) else (none)) else (none)) else (none)
set_option maxHeartbeats 8000000 in
set_option maxRecDepth 100000 in
theorem gauss_bits.calls (a0 : ByteArray) (r : Int) (w : World) (h : gauss_bits.f a0 = some r) :
    Calls Try.prog 61 #[.string a0] w fun e w' => e = .returned (.int .u32 r) ∧ Drawn0 w w' := by
  have H : (if 0 < (a0.size : Int) then (if 1 < (a0.size : Int) then (if 2 < (a0.size : Int) then (if 3 < (a0.size : Int) then (some (Go.bits .or .u32 (Go.bits .or .u32 (Go.bits .or .u32 ((bt a0 0) % 4294967296) ((((bt a0 1) % 4294967296) * 256) % 4294967296)) ((((bt a0 2) % 4294967296) * 65536) % 4294967296)) ((((bt a0 3) % 4294967296) * 16777216) % 4294967296))) else (none)) else (none)) else (none)) else (none)) = some r := h
  clear h
  by_cases c2 : 0 < (a0.size : Int)
  · rw [if_pos c2] at H
    have c2b0 : decide (0 < (a0.size : Int)) = true := decide_eq_true c2
    have c2b1 : decide (0 < a0.size) = true := decide_eq_true (by omega)
    clear c2
    by_cases c4 : 1 < (a0.size : Int)
    · rw [if_pos c4] at H
      have c4b0 : decide (1 < (a0.size : Int)) = true := decide_eq_true c4
      have c4b1 : decide (1 < a0.size) = true := decide_eq_true (by omega)
      clear c4
      by_cases c6 : 2 < (a0.size : Int)
      · rw [if_pos c6] at H
        have c6b0 : decide (2 < (a0.size : Int)) = true := decide_eq_true c6
        have c6b1 : decide (2 < a0.size) = true := decide_eq_true (by omega)
        clear c6
        by_cases c8 : 3 < (a0.size : Int)
        · rw [if_pos c8] at H
          have c8b0 : decide (3 < (a0.size : Int)) = true := decide_eq_true c8
          have c8b1 : decide (3 < a0.size) = true := decide_eq_true (by omega)
          clear c8
          obtain rfl := Option.some.inj H
          have p3 : 0 ≤ (0 : Int) := (by omega)
          have q3 : 0 < a0.size := (by have : (0 : Int) < (a0.size : Int) := of_decide_eq_true (by first | (with_reducible assumption) | assumption); omega)
          have hx3 : ∀ h : 0 < a0.size, ((a0[0]'h).toNat : Int) = bt a0 0 := bt_at a0 0
          clear p3
          have qi3 : (0 < (a0.size : Int)) = True := eq_true (of_decide_eq_true (by first | (with_reducible assumption) | assumption))
          replace q3 := eq_true q3
          have p5 : 0 ≤ (1 : Int) := (by omega)
          have q5 : 1 < a0.size := (by have : (1 : Int) < (a0.size : Int) := of_decide_eq_true (by first | (with_reducible assumption) | assumption); omega)
          have hx5 : ∀ h : 1 < a0.size, ((a0[1]'h).toNat : Int) = bt a0 1 := bt_at a0 1
          clear p5
          have qi5 : (1 < (a0.size : Int)) = True := eq_true (of_decide_eq_true (by first | (with_reducible assumption) | assumption))
          replace q5 := eq_true q5
          have p7 : 0 ≤ (2 : Int) := (by omega)
          have q7 : 2 < a0.size := (by have : (2 : Int) < (a0.size : Int) := of_decide_eq_true (by first | (with_reducible assumption) | assumption); omega)
          have hx7 : ∀ h : 2 < a0.size, ((a0[2]'h).toNat : Int) = bt a0 2 := bt_at a0 2
          clear p7
          have qi7 : (2 < (a0.size : Int)) = True := eq_true (of_decide_eq_true (by first | (with_reducible assumption) | assumption))
          replace q7 := eq_true q7
          have p9 : 0 ≤ (3 : Int) := (by omega)
          have q9 : 3 < a0.size := (by have : (3 : Int) < (a0.size : Int) := of_decide_eq_true (by first | (with_reducible assumption) | assumption); omega)
          have hx9 : ∀ h : 3 < a0.size, ((a0[3]'h).toNat : Int) = bt a0 3 := bt_at a0 3
          clear p9
          have qi9 : (3 < (a0.size : Int)) = True := eq_true (of_decide_eq_true (by first | (with_reducible assumption) | assumption))
          replace q9 := eq_true q9
          go_enter Try.func61, Try.ntmps61
          go_wp2
          repeat (go_quiet (fail); try go_wp2)
          go_ret
          exact ⟨by first | rfl | (simp; done) | (simp [*]; done), by repeat (first | exact Drawn0.refl _ | apply Drawn0.step)⟩
        · rw [if_neg c8] at H
          exact absurd H (by simp)
      · rw [if_neg c6] at H
        exact absurd H (by simp)
    · rw [if_neg c4] at H
      exact absurd H (by simp)
  · rw [if_neg c2] at H
    exact absurd H (by simp)

end Go.Proofs.Ytpojamikfcmnoaa.X
-- by xprint.py, a program of this session, over the kit's print.py
namespace Go.Proofs.Ytpojamikfcmnoaa.X
open Go.RowKit Go.Proofs.YtpojamikfcmnoaaW.PrintWords Go.Proofs.YtpojamikfcmnoaaW.PrintLast Go.Proofs.YtpojamikfcmnoaaW.PrintMore
attribute [local go_sem] max2_int min2_int max_two min_two max_three min_three max_four min_four   -- for this text's walks alone
set_option linter.unusedVariables false
set_option linter.unusedSimpArgs false

def gauss_bits_s.f (a0 : ByteArray) : Option Int := if 4 ≤ a0.size then some (wd a0 : Int) else none
theorem gauss_bits_s.ev (a0 : ByteArray) (r) (h : gauss_bits_s.f a0 = some r) : ∃ k : Nat, gauss_bits.f a0 = some r := by
  refine ⟨0, ?_⟩
  unfold gauss_bits_s.f at h
  split at h
  · rename_i hs
    rw [← h]
    unfold gauss_bits.f
    have h0 := bt_range a0 0
    have h1 := bt_range a0 1
    have h2 := bt_range a0 2
    have h3 := bt_range a0 3
    rw [if_pos (by omega), if_pos (by omega), if_pos (by omega), if_pos (by omega), wd_eq]
    generalize bt a0 0 = x0 at *
    generalize bt a0 1 = x1 at *
    generalize bt a0 2 = x2 at *
    generalize bt a0 3 = x3 at *
    rw [show x0 % 4294967296 = x0 by omega, show x1 % 4294967296 * 256 % 4294967296 = x1 * 256 by omega, show x2 % 4294967296 * 65536 % 4294967296 = x2 * 65536 by omega, show x3 % 4294967296 * 16777216 % 4294967296 = x3 * 16777216 by omega,
      or_low x0 (x1 * 256) 8 (by omega) (by omega) (by omega) (by omega) (by omega) (by omega), or_low (x0 + x1 * 256) (x2 * 65536) 16 (by omega) (by omega) (by omega) (by omega) (by omega) (by omega), or_low (x0 + x1 * 256 + x2 * 65536) (x3 * 16777216) 24 (by omega) (by omega) (by omega) (by omega) (by omega) (by omega)]
  · cases h

set_option maxHeartbeats 1000000 in
theorem gauss_bits_s.calls (a0 : ByteArray) (r : Int) (w : World) (h : gauss_bits_s.f a0 = some r) :
    Calls Try.prog 61 #[.string a0] w fun e w' => e = .returned (.int .u32 r) ∧ Drawn0 w w' := by
  obtain ⟨k, hk⟩ := gauss_bits_s.ev a0 _ h
  exact gauss_bits.calls a0 r w hk

end Go.Proofs.Ytpojamikfcmnoaa.X
-- by xprint.py, a program of this session, over the kit's print.py
namespace Go.Proofs.Ytpojamikfcmnoaa.X
open Go.RowKit Go.Proofs.YtpojamikfcmnoaaW.PrintWords Go.Proofs.YtpojamikfcmnoaaW.PrintLast Go.Proofs.YtpojamikfcmnoaaW.PrintMore
attribute [local go_sem] max2_int min2_int max_two min_two max_three min_three max_four min_four   -- for this text's walks alone
set_option linter.unusedVariables false
set_option linter.unusedSimpArgs false

def nearR (a b : Int) : Bool := decide (-1125899906842624 ≤ a ∧ a ≤ 1125899906842624) && decide (-1125899906842624 ≤ b ∧ b ≤ 1125899906842624)
theorem near_f (a b : Int) : agatelaw06_near.f a b = some (nearR a b) := by
  unfold agatelaw06_near.f nearR
  by_cases h1 : a ≥ -1125899906842624
  · rw [if_pos h1]
    by_cases h2 : a ≤ 1125899906842624
    · rw [if_pos h2, decide_eq_true (⟨h1, h2⟩ : -1125899906842624 ≤ a ∧ a ≤ 1125899906842624), Bool.true_and]
      by_cases h3 : b ≥ -1125899906842624
      · rw [if_pos h3]; congr 1; rw [decide_eq_decide]; exact ⟨fun g => ⟨h3, g⟩, fun g => g.2⟩
      · rw [if_neg h3, decide_eq_false (fun g => h3 g.1)]
    · rw [if_neg h2, decide_eq_false (fun g => h2 g.2)]; rfl
  · rw [if_neg h1, decide_eq_false (fun g => h1 g.1)]; rfl
theorem nearR_of {a b : Int} (h : nearR a b = true) : (-1125899906842624 ≤ a ∧ a ≤ 1125899906842624) ∧ (-1125899906842624 ≤ b ∧ b ≤ 1125899906842624) := by
  unfold nearR at h
  simpa only [Bool.and_eq_true, decide_eq_true_eq] using h
theorem mayE_one (a b : Int) (ha : -9007199254740992 < a ∧ a < 9007199254740992) (hb : -9007199254740992 < b ∧ b < 9007199254740992) : mayE [(floatOfInt .f64 a, floatOfInt .f64 b)] = mayR a b := by
  unfold mayE
  rw [List.all_cons, List.all_nil, Bool.and_true]
  exact mayE_F a b ha hb
theorem mayE_pair (a b c d : Int) (ha : -9007199254740992 < a ∧ a < 9007199254740992) (hb : -9007199254740992 < b ∧ b < 9007199254740992) (hc : -9007199254740992 < c ∧ c < 9007199254740992) (hd : -9007199254740992 < d ∧ d < 9007199254740992) : mayE [(floatOfInt .f64 a, floatOfInt .f64 b), (floatOfInt .f64 c, floatOfInt .f64 d)] = (mayR a b && mayR c d) := by
  unfold mayE
  rw [List.all_cons, List.all_cons, List.all_nil, Bool.and_true]
  show ((partE (floatOfInt .f64 a) && partE (floatOfInt .f64 b)) && (partE (floatOfInt .f64 c) && partE (floatOfInt .f64 d))) = _
  rw [mayE_F a b ha hb, mayE_F c d hc hd]
theorem F_zero : floatOfInt .f64 0 = 0 := by decide +kernel
theorem doneS_F (x y : Int) (l : List (Nat × Nat)) (m : Bool) (hl : mayE l = m) (hx : -9007199254740992 < x ∧ x < 9007199254740992) (hy : -9007199254740992 < y ∧ y < 9007199254740992) : doneS (floatOfInt .f64 x) (floatOfInt .f64 y) l = (if m = true then (if mayR x y = true then (floatOfInt .f64 x, floatOfInt .f64 y, 0) else (0, 0, 17)) else (0, 0, 17)) := by
  unfold doneS
  rw [hl, mayE_F x y hx hy]
  cases m
  · rfl
  · rw [Bool.true_and, if_pos rfl]
theorem doneS_no (cr ci : Nat) (l : List (Nat × Nat)) (hl : mayE l = false) : doneS cr ci l = (0, 0, 17) := by unfold doneS; rw [hl]; rfl
def toF (r : Int × Int × Int) : Nat × Nat × Int := (floatOfInt .f64 r.1, floatOfInt .f64 r.2.1, r.2.2)
theorem toF_no : toF (0, 0, 17) = (0, 0, 17) := by unfold toF; rw [F_zero]
theorem toF_if (m : Bool) (x y : Int) : toF (if m = true then (if mayR x y = true then (x, y, 0) else (0, 0, 17)) else (0, 0, 17)) = (if m = true then (if mayR x y = true then (floatOfInt .f64 x, floatOfInt .f64 y, 0) else (0, 0, 17)) else (0, 0, 17)) := by
  cases m
  · exact toF_no
  · rw [if_pos rfl, if_pos rfl]
    split
    · rfl
    · exact toF_no
theorem reckon_add (a b c d : Int) (h1 : nearR a b = true) (h2 : nearR c d = true) : ∃ re im cr ci, floatBits .add .f64 (floatOfInt .f64 a) (floatOfInt .f64 c) = some re ∧ floatBits .add .f64 (floatOfInt .f64 b) (floatOfInt .f64 d) = some im ∧ floatBits .add .f64 re 0 = some cr ∧ floatBits .add .f64 im 0 = some ci ∧ doneS cr ci [(floatOfInt .f64 a, floatOfInt .f64 b), (floatOfInt .f64 c, floatOfInt .f64 d)] = toF (doR 0 a b c d) := by
  obtain ⟨ha, hb⟩ := nearR_of h1
  obtain ⟨hc, hd⟩ := nearR_of h2
  obtain ⟨re, e1, e3⟩ := add_F a c (by omega) (by omega)
  obtain ⟨im, e2, e4⟩ := add_F b d (by omega) (by omega)
  refine ⟨re, im, _, _, e1, e2, e3, e4, ?_⟩
  rw [doneS_F _ _ _ _ (mayE_pair a b c d (by omega) (by omega) (by omega) (by omega)) (by omega) (by omega), ← toF_if]
  congr 1
theorem reckon_sub (a b c d : Int) (h1 : nearR a b = true) (h2 : nearR c d = true) : ∃ re im cr ci, floatBits .sub .f64 (floatOfInt .f64 a) (floatOfInt .f64 c) = some re ∧ floatBits .sub .f64 (floatOfInt .f64 b) (floatOfInt .f64 d) = some im ∧ floatBits .add .f64 re 0 = some cr ∧ floatBits .add .f64 im 0 = some ci ∧ doneS cr ci [(floatOfInt .f64 a, floatOfInt .f64 b), (floatOfInt .f64 c, floatOfInt .f64 d)] = toF (doR 1 a b c d) := by
  obtain ⟨ha, hb⟩ := nearR_of h1
  obtain ⟨hc, hd⟩ := nearR_of h2
  obtain ⟨re, e1, e3⟩ := sub_F a c (by omega) (by omega)
  obtain ⟨im, e2, e4⟩ := sub_F b d (by omega) (by omega)
  refine ⟨re, im, _, _, e1, e2, e3, e4, ?_⟩
  rw [doneS_F _ _ _ _ (mayE_pair a b c d (by omega) (by omega) (by omega) (by omega)) (by omega) (by omega), ← toF_if]
  congr 1
theorem reckon_mul (a b c d : Int) (h1 : nearR a b = true) (h2 : nearR c d = true) : ∃ re im cr ci, cMulBits (floatOfInt .f64 a) (floatOfInt .f64 b) (floatOfInt .f64 c) (floatOfInt .f64 d) = some (re, im) ∧ floatBits .add .f64 re 0 = some cr ∧ floatBits .add .f64 im 0 = some ci ∧ doneS cr ci [(floatOfInt .f64 a, floatOfInt .f64 b), (floatOfInt .f64 c, floatOfInt .f64 d)] = toF (doR 2 a b c d) := by
  obtain ⟨ha, hb⟩ := nearR_of h1
  obtain ⟨hc, hd⟩ := nearR_of h2
  have hm := mayE_pair a b c d (by omega) (by omega) (by omega) (by omega)
  cases hmm : (mayR a b && mayR c d) with
  | true =>
    rw [Bool.and_eq_true] at hmm
    obtain ⟨ga, gb⟩ := mayR_of0 hmm.1
    obtain ⟨gc, gd⟩ := mayR_of0 hmm.2
    obtain ⟨re, im, e1, e2, e3⟩ := mul_small a b c d ga gb gc gd
    have b1 := small_mul a c ga gc
    have b2 := small_mul b d gb gd
    have b3 := small_mul a d ga gd
    have b4 := small_mul b c gb gc
    refine ⟨re, im, _, _, e1, e2, e3, ?_⟩
    rw [doneS_F _ _ _ _ hm (by omega) (by omega), ← toF_if]
    congr 1
  | false =>
    obtain ⟨re, im, cr, ci, e1, e2, e3⟩ := mul_any a b c d (by omega) (by omega) (by omega) (by omega)
    refine ⟨re, im, cr, ci, e1, e2, e3, ?_⟩
    rw [doneS_no _ _ _ (hm.trans hmm), ← toF_no]
    congr 1
    unfold doR
    rw [if_neg]
    intro g
    rw [show ((2 : Int) == 3) = false from rfl, Bool.false_or] at g
    rw [g] at hmm; cases hmm
theorem reckon_neg (a b c d : Int) (h1 : nearR a b = true) : floatBits .add .f64 (Op.negFloat .f64 (floatOfInt .f64 a)) 0 = some (floatOfInt .f64 (-a)) ∧ floatBits .add .f64 (Op.negFloat .f64 (floatOfInt .f64 b)) 0 = some (floatOfInt .f64 (-b)) ∧ doneS (floatOfInt .f64 (-a)) (floatOfInt .f64 (-b)) [(floatOfInt .f64 a, floatOfInt .f64 b)] = toF (doR 3 a b c d) := by
  obtain ⟨ha, hb⟩ := nearR_of h1
  refine ⟨neg_F a (by omega) (by omega), neg_F b (by omega) (by omega), ?_⟩
  rw [doneS_F _ _ _ _ (mayE_one a b (by omega) (by omega)) (by omega) (by omega), ← toF_if]
  congr 1
  unfold doR
  rw [show ((3 : Int) == 3) = true from rfl, Bool.true_or, Bool.and_true]
  rfl
theorem doR_out (op a b c d : Int) : (doR op a b c d).2.2 = 0 ∧ mayR (doR op a b c d).1 (doR op a b c d).2.1 = true ∨ doR op a b c d = (0, 0, 17) := by
  unfold doR
  by_cases g : (mayR a b && ((op == 3) || mayR c d)) = true
  · rw [if_pos g]
    generalize (if op = 0 then (a + c, b + d) else if op = 1 then (a - c, b - d) else if op = 2 then (a * c - b * d, a * d + b * c) else (-a, -b)) = z
    dsimp only
    by_cases h : mayR z.1 z.2 = true
    · rw [if_pos h]; exact Or.inl ⟨rfl, h⟩
    · rw [if_neg h]; exact Or.inr rfl
  · rw [if_neg g]; exact Or.inr rfl
theorem order_F (n : Int) (h0 : -9007199254740992 < n) (h1 : n < 9007199254740992) : (FloatKind.f64.format.order (floatOfInt .f64 n) (floatOfInt .f64 n) == some .eq) = true := by
  have h : FloatKind.f64.format.order (floatOfInt .f64 n) (floatOfInt .f64 n) = _ := num_order (F_int n h0 h1) (F_int n h0 h1)
  rw [h, cmp_eq, decide_eq_true rfl]
theorem reck_Neg.calls (a b c d : Int) (h1 : nearR a b = true) (w : World) :
    Calls Try.prog 13 #[.complex .f64 (floatOfInt .f64 a) (floatOfInt .f64 b)] w fun e w' => e = .returned (.tuple #[.complex .f64 (floatOfInt .f64 (doR 3 a b c d).1) (floatOfInt .f64 (doR 3 a b c d).2.1), .int .i64 (doR 3 a b c d).2.2]) ∧ Below w.heap.size w w' := by
  obtain ⟨e1, e2, e3⟩ := reckon_neg a b c d h1
  refine (gauss_Neg.calls _ _ _ _ e1 e2 w).mono ?_
  rintro e w' ⟨rfl, hb⟩
  rw [e3]
  exact ⟨rfl, hb⟩
theorem reck_Add.calls (a b c d : Int) (h1 : nearR a b = true) (h2 : nearR c d = true) (w : World) :
    Calls Try.prog 15 #[.complex .f64 (floatOfInt .f64 a) (floatOfInt .f64 b), .complex .f64 (floatOfInt .f64 c) (floatOfInt .f64 d)] w fun e w' => e = .returned (.tuple #[.complex .f64 (floatOfInt .f64 (doR 0 a b c d).1) (floatOfInt .f64 (doR 0 a b c d).2.1), .int .i64 (doR 0 a b c d).2.2]) ∧ Below w.heap.size w w' := by
  obtain ⟨re, im, cr, ci, e1, e2, e3, e4, e5⟩ := reckon_add a b c d h1 h2
  refine (gauss_Add.calls _ _ _ _ _ _ _ _ e1 e2 e3 e4 w).mono ?_
  rintro e w' ⟨rfl, hb⟩
  rw [e5]
  exact ⟨rfl, hb⟩
theorem reck_Sub.calls (a b c d : Int) (h1 : nearR a b = true) (h2 : nearR c d = true) (w : World) :
    Calls Try.prog 16 #[.complex .f64 (floatOfInt .f64 a) (floatOfInt .f64 b), .complex .f64 (floatOfInt .f64 c) (floatOfInt .f64 d)] w fun e w' => e = .returned (.tuple #[.complex .f64 (floatOfInt .f64 (doR 1 a b c d).1) (floatOfInt .f64 (doR 1 a b c d).2.1), .int .i64 (doR 1 a b c d).2.2]) ∧ Below w.heap.size w w' := by
  obtain ⟨re, im, cr, ci, e1, e2, e3, e4, e5⟩ := reckon_sub a b c d h1 h2
  refine (gauss_Sub.calls _ _ _ _ _ _ _ _ e1 e2 e3 e4 w).mono ?_
  rintro e w' ⟨rfl, hb⟩
  rw [e5]
  exact ⟨rfl, hb⟩
theorem reck_Mul.calls (a b c d : Int) (h1 : nearR a b = true) (h2 : nearR c d = true) (w : World) :
    Calls Try.prog 17 #[.complex .f64 (floatOfInt .f64 a) (floatOfInt .f64 b), .complex .f64 (floatOfInt .f64 c) (floatOfInt .f64 d)] w fun e w' => e = .returned (.tuple #[.complex .f64 (floatOfInt .f64 (doR 2 a b c d).1) (floatOfInt .f64 (doR 2 a b c d).2.1), .int .i64 (doR 2 a b c d).2.2]) ∧ Below w.heap.size w w' := by
  obtain ⟨re, im, cr, ci, e1, e3, e4, e5⟩ := reckon_mul a b c d h1 h2
  refine (gauss_Mul.calls _ _ _ _ _ _ _ _ e1 e3 e4 w).mono ?_
  rintro e w' ⟨rfl, hb⟩
  rw [e5]
  exact ⟨rfl, hb⟩
theorem reck_Put.calls (a b : Int) (h : mayR a b = true) (w : World) :
    Calls Try.prog 19 #[.complex .f64 (floatOfInt .f64 a) (floatOfInt .f64 b)] w fun e w' => e = .returned (.tuple #[.string (laidV (floatOfInt .f32 a) ++ laidV (floatOfInt .f32 b)), .int .i64 0]) ∧ Below w.heap.size w w' := by
  obtain ⟨ha, hb⟩ := mayR_of0 h
  exact gauss_Put.calls _ _ _ _ ((mayE_one a b (by omega) (by omega)).trans h) (F32 a (by omega) (by omega)) (F32 b (by omega) (by omega)) w
theorem putR_yes (a b : Int) (h : mayR a b = true) : agateref06_Put_s.f a b = some (laidV (floatOfInt .f32 a) ++ laidV (floatOfInt .f32 b), 0) := by
  unfold agateref06_Put_s.f putR; rw [if_pos h]

end Go.Proofs.Ytpojamikfcmnoaa.X
