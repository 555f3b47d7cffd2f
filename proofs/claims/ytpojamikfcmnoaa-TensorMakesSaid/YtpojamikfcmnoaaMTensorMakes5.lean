import Derived.Test.YtpojamikfcmnoaaMTensorMakes2
import Derived.Test.YtpojamikfcmnoaaMTensorMakes4
import Derived.Test.YtpojamikfcmnoaaMTensorMakes3
namespace Go.Proofs.Ytpojamikfcmnoaa.X
open Go.RowKit Go.Proofs.YtpojamikfcmnoaaW.PrintWords Go.Proofs.YtpojamikfcmnoaaW.PrintLast Go.Proofs.YtpojamikfcmnoaaW.PrintMore
attribute [local go_sem] max2_int min2_int max_two min_two max_three min_three max_four min_four
set_option linter.unusedVariables false
set_option linter.unusedSimpArgs false
def readR (b : ByteArray) : Int × Int × Int :=
  if b.size < 8 then (0, 0, 1) else if b.size > 8 then (0, 0, 2)
  else if ((wholeS (wd b)).2 && (wholeS (wd (b.extract 4 b.size))).2) = true then ((wholeS (wd b)).1, (wholeS (wd (b.extract 4 b.size))).1, 0) else (0, 0, 17)
theorem nan_word (t : Nat) : ∃ n, Ieee.double.read ((t % 2) * 2 ^ 63 + 0x7ff0000000000000 + 1 + (t / 2) % (2 ^ 52 - 1)) = .nan ((t % 2) == 1) n := by
  have hb : Ieee.double.binade = 4503599627370496 := by decide
  have hi : Ieee.double.infRung = 9218868437227405312 := by decide
  have hs : Ieee.double.signWeight = 9223372036854775808 := by decide
  have e1 : (2 : Nat) ^ 63 = 9223372036854775808 := by decide
  have e2 : (2 : Nat) ^ 52 - 1 = 4503599627370495 := by decide
  rw [e1, e2]
  have hr : t / 2 % 4503599627370495 < 4503599627370495 := Nat.mod_lt _ (by decide)
  have ht : t % 2 < 2 := Nat.mod_lt _ (by decide)
  generalize t / 2 % 4503599627370495 = r at hr
  generalize t % 2 = s at ht
  unfold Ieee.Format.read
  dsimp only
  rw [hb, hi, hs]
  have d1 : (s * 9223372036854775808 + 9218868437227405312 + 1 + r) / 9223372036854775808 % 2 = s := by omega
  have d2 : (s * 9223372036854775808 + 9218868437227405312 + 1 + r) % 9223372036854775808 = 9218868437227405312 + 1 + r := by omega
  rw [d1, d2, if_neg (by omega), if_neg (by omega), if_neg (by omega)]
  exact ⟨_, rfl⟩
theorem nan_part (x : Nat) (h : ∃ s n, Ieee.double.read x = .nan s n) : partE x = false := by
  obtain ⟨s, n, h⟩ := h
  unfold partE
  rw [order_nan h]; rfl
theorem whole_nan (v : Nat) (hv : v < 4294967296) (hn : (Ieee.single.read v).isNaN = true) : (wholeS v).2 = false := by
  have hr := read_single v hv
  by_cases h1 : v % 2147483648 < 8388608
  · rw [if_pos h1] at hr; rw [hr] at hn; cases hn
  · rw [if_neg h1] at hr
    by_cases h2 : v % 2147483648 < 2139095040
    · rw [if_pos h2] at hr; rw [hr] at hn; cases hn
    · unfold wholeS
      rw [if_neg (by omega), if_pos (Or.inr (by omega))]
theorem wide_run (v : Nat) (hv : v < 4294967296) : ∃ (g : World → Nat) (k : Nat), (∀ w, partE (g w) = (wholeS v).2) ∧ ((wholeS v).2 = true → ∀ w, g w = floatOfInt .f64 (wholeS v).1) ∧ ∀ w, (convert 96 47 (.float .f32 v)).run Try.prog w = .ok (.float .f64 (g w)) (w.drewN k) := by
  cases hn : (Ieee.single.read v).isNaN with
  | false =>
    obtain ⟨h1, h2⟩ := whole_wide v hv hn
    refine ⟨fun _ => wideV v, 0, fun _ => h1, fun h _ => (h2 h).1, fun w => ?_⟩
    refine run_convert_float_float w 96 47 .f32 .f64 v (wideV v) (by rw [Try.underlying96]; rfl) Try.underlying47 ?_
    unfold floatToFloatBits
    rw [if_neg (by decide)]
    have ed : FloatKind.f32.decode v = Ieee.single.read v := rfl
    rw [ed]
    cases hr : Ieee.single.read v with
    | nan s n => rw [hr] at hn; cases hn
    | infinity s => show some (Ieee.double.write (.infinity s)) = some (wideV v); unfold wideV; rw [hr]
    | number s m p =>
      have hp : p ≤ 104 := by
        have h3 := read_single v hv
        rw [hr] at h3
        split at h3
        · cases h3; decide
        · split at h3
          · cases h3; omega
          · split at h3 <;> cases h3
      obtain ⟨⟨m', p', e, _, _⟩, ew⟩ := wide_number hr hp
      have e3 : FloatKind.f64.encode (.number s m p) = wideV v := ew.symm
      have e4 : FloatKind.f64.decode (wideV v) = .number s m' p' := e
      show (if (FloatKind.f64.decode (FloatKind.f64.encode (.number s m p))).isInfinity then none else some (FloatKind.f64.encode (.number s m p))) = some (wideV v)
      rw [e3, e4]; rfl
  | true =>
    refine ⟨fun w => (Question.nanConv .f64 v).cut (w.tape w.drawn (Question.nanConv .f64 v)), 1, fun w => ?_, fun h => ?_, fun w => ?_⟩
    · rw [whole_nan v hv hn]
      obtain ⟨n, h⟩ := nan_word (w.tape w.drawn (Question.nanConv .f64 v))
      exact nan_part _ ⟨_, n, h⟩
    · rw [whole_nan v hv hn] at h; cases h
    · have ed : FloatKind.f32.decode v = Ieee.single.read v := rfl
      cases hr : Ieee.single.read v with
      | infinity s => rw [hr] at hn; cases hn
      | number s m p => rw [hr] at hn; cases hn
      | nan s n =>
        have hs : Try.prog.underlying 96 = some (.float .f32) := Try.underlying96
        simp [convert, run_underlying hs, run_underlying Try.underlying47, Conv.floatToFloat, ed, hr, Question.forced, World.drewN]
end Go.Proofs.Ytpojamikfcmnoaa.X
namespace Go.Proofs.Ytpojamikfcmnoaa.X
open Go.RowKit Go.Proofs.YtpojamikfcmnoaaW.PrintWords Go.Proofs.YtpojamikfcmnoaaW.PrintLast Go.Proofs.YtpojamikfcmnoaaW.PrintMore
attribute [local go_sem] max2_int min2_int max_two min_two max_three min_three max_four min_four
set_option linter.unusedVariables false
set_option linter.unusedSimpArgs false
end Go.Proofs.Ytpojamikfcmnoaa.X
namespace Go.Proofs.Ytpojamikfcmnoaa.X
open Go.RowKit Go.Proofs.YtpojamikfcmnoaaW.PrintWords Go.Proofs.YtpojamikfcmnoaaW.PrintLast Go.Proofs.YtpojamikfcmnoaaW.PrintMore
attribute [local go_sem] max2_int min2_int max_two min_two max_three min_three max_four min_four
set_option linter.unusedVariables false
set_option linter.unusedSimpArgs false
def agateref06_laid.f (a0 : Int) : Option (ByteArray) := some (strOfNums (([(Int.tmod a0 256) % 256, ((Int.tdiv a0 256) % 4294967296) % 256, ((Int.tdiv a0 65536) % 4294967296) % 256, ((Int.tdiv a0 16777216) % 4294967296) % 256] : List Int)))
set_option maxHeartbeats 8000000 in
set_option maxRecDepth 100000 in
theorem agateref06_laid.calls (a0 : Int) (r : ByteArray) (w : World) (h : agateref06_laid.f a0 = some r) :
    Calls Try.prog 57 #[.int .u32 a0] w fun e w' => e = .returned (.string r) ∧ Below w.heap.size w w' := by
  have HB := Aside0.mk (Below.refl w.heap.size w)
  have H : (some (strOfNums (([(Int.tmod a0 256) % 256, ((Int.tdiv a0 256) % 4294967296) % 256, ((Int.tdiv a0 65536) % 4294967296) % 256, ((Int.tdiv a0 16777216) % 4294967296) % 256] : List Int)))) = some r := h
  clear h
  obtain ⟨y101, hy101⟩ : ∃ y_ : List Int, y_ = (([(Int.tmod a0 256) % 256, ((Int.tdiv a0 256) % 4294967296) % 256, ((Int.tdiv a0 65536) % 4294967296) % 256, ((Int.tdiv a0 16777216) % 4294967296) % 256] : List Int)) := ⟨_, rfl⟩
  replace H : (some (strOfNums y101)) = some r := by first | (rw [hy101]; with_reducible exact H) | (have H2_ := (Option.bind_some _ _).symm.trans H; rw [hy101]; with_reducible exact H2_) | (have H2_ := (Option.bind_some _ _).symm.trans H; with_reducible exact H2_) | with_reducible exact H | (rw [hy101]; exact H) | exact H
  have Ny101 := Aside0.mk hy101
  clear hy101
  obtain rfl := Option.some.inj H
  go_enter Try.func57, Try.ntmps57
  go_wp2_with (first | ((with_reducible refine gate_dst (N := 17) rfl ?_); refine Kd.R_lit (Kd.int .u8) _ 5 ?hg (N := 17) ?hd (xs := ([(Int.tmod a0 256) % 256, ((Int.tdiv a0 256) % 4294967296) % 256, ((Int.tdiv a0 65536) % 4294967296) % 256, ((Int.tdiv a0 16777216) % 4294967296) % 256] : List Int)) (inner := [.int .u8 ((Int.tmod a0 256) % 256), .int .u8 (((Int.tdiv a0 256) % 4294967296) % 256), .int .u8 (((Int.tdiv a0 65536) % 4294967296) % 256), .int .u8 (((Int.tdiv a0 16777216) % 4294967296) % 256)]) (ok := fun _ => True) (okp := fun _ => True) ?hr ?hp (fun _ hk => hk) trivial (Below.refl _ _) (Nat.le_refl _) (by simp) ?_; (case hd => rfl); (case hg => rfl); (case hr => first | (go_simp; done) | (go_simp; rfl)); (case hp => exact (Reps.one (show Kd.M (Kd.int .u8) _ _ _ ((Int.tmod a0 256) % 256) [.int .u8 ((Int.tmod a0 256) % 256)] from rfl) (Reps.one (show Kd.M (Kd.int .u8) _ _ _ (((Int.tdiv a0 256) % 4294967296) % 256) [.int .u8 (((Int.tdiv a0 256) % 4294967296) % 256)] from rfl) (Reps.one (show Kd.M (Kd.int .u8) _ _ _ (((Int.tdiv a0 65536) % 4294967296) % 256) [.int .u8 (((Int.tdiv a0 65536) % 4294967296) % 256)] from rfl) (Reps.one (show Kd.M (Kd.int .u8) _ _ _ (((Int.tdiv a0 16777216) % 4294967296) % 256) [.int .u8 (((Int.tdiv a0 16777216) % 4294967296) % 256)] from rfl) (Reps.none _ _)))))); intro v102 w2 ho3 hb hg_ hnew_; clear hg_ hnew_; (first | rw [← Ny101.out] at ho3 | (simp only [Int.reduceToNat] at ho3; rw [← Ny101.out] at ho3)); have n0_ := Aside0.mk (Kd.R_lower ho3 (below_size (by repeat (first | (with_reducible first | exact HB.out | apply below_alloc | apply pw_below_drewN | apply below_drew1) | exact HB.out)))); have n1_ := Aside0.mk (below_step (by repeat (first | (with_reducible first | exact HB.out | apply below_alloc | apply pw_below_drewN | apply below_drew1) | exact HB.out)) hb); clear HB; have HO103 := n0_; have HB := n1_; clear n0_ n1_; clear hb ho3; have hcv4 := own_string (P := Try.prog) Try.underlying109 Try.underlying5 Try.underlying9 (Kd.own_of_R HO103.out)))
  go_ret
  exact ⟨by first | rfl | (simp [errW_none, errW_some] <;> rfl) | (simp [*, errW_none, errW_some] <;> rfl), by repeat (first | (with_reducible first | exact HB.out | apply below_alloc | apply pw_below_drewN | apply below_drew1) | exact HB.out)⟩
end Go.Proofs.Ytpojamikfcmnoaa.X
namespace Go.Proofs.Ytpojamikfcmnoaa.X
open Go.RowKit Go.Proofs.YtpojamikfcmnoaaW.PrintWords Go.Proofs.YtpojamikfcmnoaaW.PrintLast Go.Proofs.YtpojamikfcmnoaaW.PrintMore
attribute [local go_sem] max2_int min2_int max_two min_two max_three min_three max_four min_four
set_option linter.unusedVariables false
set_option linter.unusedSimpArgs false
mutual
def agateref06_bits.j0 : Nat → Int → Int → Option (Int)
  | 0, _, _ => none
  | k + 1, x0, x3 => agateref06_bits.l0 k x0 x3 150
def agateref06_bits.l0 : Nat → Int → Int → Int → Option (Int)
  | 0, _, _, _ => none
  | k + 1, x0, x3, x4 => if x0 < 8388608 then (agateref06_bits.l0 k (wrap64 (x0 * 2)) x3 ((x4 - 1) % 4294967296)) else (some ((((x3 + ((x4 * 8388608) % 4294967296)) % 4294967296) + ((wrap64 (x0 - 8388608)) % 4294967296)) % 4294967296))
end
def agateref06_bits.f (k : Nat) (a0 : Int) : Option (Int) := if a0 = 0 then (some 0) else (if a0 < 0 then (agateref06_bits.j0 k (wrap64 (-a0)) 2147483648) else (agateref06_bits.j0 k a0 0))
set_option maxHeartbeats 8000000 in
set_option maxRecDepth 100000 in
theorem agateref06_bits.calls (k : Nat) (a0 : Int) (r : Int) (w : World) (h : agateref06_bits.f k a0 = some r) :
    Calls Try.prog 58 #[.int .i64 a0] w fun e w' => e = .returned (.int .u32 r) ∧ Drawn0 w w' := by
  have H : (if a0 = 0 then (some 0) else (if a0 < 0 then (agateref06_bits.j0 k (wrap64 (-a0)) 2147483648) else (agateref06_bits.j0 k a0 0))) = some r := h
  clear h
  by_cases c2 : a0 = 0
  · rw [if_pos c2] at H
    have c2b0 : (a0 == 0) = true := beq_iff_eq.mpr c2
    have c2b1 : (a0 != 0) = false := bne_eq_false_iff_eq.mpr c2
    clear c2
    obtain rfl := Option.some.inj H
    go_enter Try.func58, Try.ntmps58
    go_wp2
    go_ret
    exact ⟨by first | rfl | (simp; done) | (simp [*]; done), by repeat (first | exact Drawn0.refl _ | apply Drawn0.step)⟩
  · rw [if_neg c2] at H
    have c2b0 : (a0 == 0) = false := beq_eq_false_iff_ne.mpr c2
    have c2b1 : (a0 != 0) = true := bne_iff_ne.mpr c2
    have HC3 := Aside0.mk H
    clear H
    go_enter Try.func58, Try.ntmps58
    go_upto_if 8 with (fail)
    go_cut [0, 3] (fun v0 v3 wc => ∃ (kq : Nat) (x0_2 : Int) (x3_2 : Int), v0 = .int .i64 x0_2 ∧ v3 = .int .u32 x3_2 ∧ Aside0 (agateref06_bits.j0 kq x0_2 x3_2 = some r) ∧ Aside0 (kq ≤ k) ∧ Drawn0 w wc)
    case first =>
      have H := HC3.out
      clear HC3
      by_cases c4 : a0 < 0
      · rw [if_pos c4] at H
        have c4b0 : decide (a0 < 0) = true := decide_eq_true c4
        clear c4
        (first | rw [c4b0] | (simp only [i64_w, i32_w]; rw [c4b0]) | skip)
        have H' := Aside0.mk H
        clear H
        go_wp2
        go_meet
        case rel => exact ⟨_, (wrap64 (-a0)), (2147483648), (by first | rfl | (simp; done) | (simp [*]; done)), (by first | rfl | (simp; done) | (simp [*]; done)), H', ⟨by first | omega | exact Nat.le_refl _⟩, by repeat (first | exact Drawn0.refl _ | apply Drawn0.step)⟩
      · rw [if_neg c4] at H
        have c4b0 : decide (a0 < 0) = false := decide_eq_false c4
        clear c4
        (first | rw [c4b0] | (simp only [i64_w, i32_w]; rw [c4b0]) | skip)
        have H' := Aside0.mk H
        clear H
        go_wp2
        go_meet
        case rel => exact ⟨_, (a0), (0), (by first | rfl | (simp; done) | (simp [*]; done)), (by first | rfl | (simp; done) | (simp [*]; done)), H', ⟨by first | omega | exact Nat.le_refl _⟩, by repeat (first | exact Drawn0.refl _ | apply Drawn0.step)⟩
    case rest =>
      clear HC3
      try clear c2
      try clear c2b0
      try clear c2b1
      try clear p2
      try clear c4
      try clear c4b0
      obtain ⟨kq, x0_2, x3_2, rfl, rfl, HA, HJ2, ⟨mc2, rfl⟩⟩ := hcut
      cases kq with
      | zero => exact absurd HA.out (by simp [agateref06_bits.j0])
      | succ kj2 =>
        have H := HA.out
        clear HA
        simp only [agateref06_bits.j0] at H
        have H' := Aside0.mk H
        clear H
        go_wp2
        go_loopg [0, 4] kj2 (fun kq v0 v4 w' => ∃ (x0_2 : Int) (x4_2 : Int), v0 = .int .i64 x0_2 ∧ v4 = .int .u32 x4_2 ∧ Aside0 (agateref06_bits.l0 kq x0_2 x3_2 x4_2 = some r) ∧ Aside0 (kq ≤ kj2) ∧ Drawn0 w w')
        case atStart => exact ⟨(x0_2), (150), (by first | rfl | (simp; done) | (simp [*]; done)), (by first | rfl | (simp; done) | (simp [*]; done)), H', ⟨Nat.le_refl _⟩, by repeat (first | exact Drawn0.refl _ | apply Drawn0.step)⟩
        case round =>
          clear H'
          try clear c2
          try clear c2b0
          try clear c2b1
          try clear p2
          try clear c4
          try clear c4b0
          try clear p2
          obtain ⟨x0_2, x4_2, rfl, rfl, HA, HK2, ⟨m2, rfl⟩⟩ := hrel
          cases gk with
          | zero => exact absurd HA.out (by simp [agateref06_bits.l0])
          | succ k2 =>
            have H := HA.out
            clear HA
            simp only [agateref06_bits.l0] at H
            by_cases c5 : x0_2 < 8388608
            · rw [if_pos c5] at H
              have c5b0 : decide (x0_2 < 8388608) = true := decide_eq_true c5
              clear c5
              have H' := Aside0.mk H
              clear H
              go_wp2
              go_roundg k2
              case measure => have := HJ2.out; have := HK2.out; omega
              case rel => exact ⟨(wrap64 (x0_2 * 2)), ((x4_2 - 1) % 4294967296), (by first | rfl | (simp; done) | (simp [*]; done)), (by first | rfl | (simp; done) | (simp [*]; done)), H', ⟨by have := HJ2.out; have := HK2.out; omega⟩, by repeat (first | exact Drawn0.refl _ | apply Drawn0.step)⟩
            · rw [if_neg c5] at H
              have c5b0 : decide (x0_2 < 8388608) = false := decide_eq_false c5
              clear c5
              obtain rfl := Option.some.inj H
              go_wp2
              go_ret
              exact ⟨by first | rfl | (simp; done) | (simp [*]; done), by repeat (first | exact Drawn0.refl _ | apply Drawn0.step)⟩
end Go.Proofs.Ytpojamikfcmnoaa.X
namespace Go.Proofs.Ytpojamikfcmnoaa.X
open Go.RowKit Go.Proofs.YtpojamikfcmnoaaW.PrintWords Go.Proofs.YtpojamikfcmnoaaW.PrintLast Go.Proofs.YtpojamikfcmnoaaW.PrintMore
attribute [local go_sem] max2_int min2_int max_two min_two max_three min_three max_four min_four
set_option linter.unusedVariables false
set_option linter.unusedSimpArgs false
def agateref06_bits_s.f (a0 : Int) : Option Int := if -1048576 ≤ a0 ∧ a0 ≤ 1048576 then some (floatOfInt .f32 a0 : Int) else none
theorem ref06bits_l0 (d : Nat) : ∀ (k x e x3 : Nat), 8388608 ≤ x * 2 ^ d → x * 2 ^ d < 16777216 → d < k → d < e → e ≤ 150 → x3 ≤ 2147483648 → agateref06_bits.l0 k (x : Int) (x3 : Int) (e : Int) = some ((x3 + (e - d) * 8388608 + (x * 2 ^ d - 8388608) : Nat) : Int) := by
  induction d with
  | zero =>
    intro k x e x3 h0 h1 hk he h150 h3
    obtain ⟨k, rfl⟩ : ∃ m, k = m + 1 := ⟨k - 1, by omega⟩
    rw [Nat.pow_zero, Nat.mul_one] at h0 h1
    rw [agateref06_bits.l0, if_neg (by omega), Nat.pow_zero, Nat.mul_one, wrap64_id (by omega) (by omega)]
    exact congrArg some (by omega)
  | succ d ih =>
    intro k x e x3 h0 h1 hk he h150 h3
    obtain ⟨k, rfl⟩ : ∃ m, k = m + 1 := ⟨k - 1, by omega⟩
    have e1 : x * 2 ^ (d + 1) = x * 2 * 2 ^ d := by rw [Nat.pow_succ, Nat.mul_comm (2 ^ d), Nat.mul_assoc]
    rw [e1] at h0 h1 ⊢
    have hx : x * 2 ≤ x * 2 * 2 ^ d := Nat.le_mul_of_pos_right _ (Nat.two_pow_pos _)
    rw [agateref06_bits.l0, if_pos (by omega), wrap64_id (by omega) (by omega), show ((e : Int) - 1) % 4294967296 = ((e - 1 : Nat) : Int) by omega, show (x : Int) * 2 = ((x * 2 : Nat) : Int) by omega, ih k (x * 2) (e - 1) x3 h0 h1 (by omega) (by omega) (by omega) h3]
    exact congrArg (fun n : Nat => some (n : Int)) (by omega)
theorem ref06bits_word (n : Int) (h : n ≠ 0) (h1 : n.natAbs ≤ 1048576) (x3 : Nat) (h3 : x3 = if n < 0 then 2147483648 else 0) : agateref06_bits.l0 25 (n.natAbs : Int) (x3 : Int) 150 = some (floatOfInt .f32 n : Int) := by
  have hk : n.natAbs ≠ 0 := by omega
  have hl : n.natAbs.log2 ≤ 20 := by
    have := (Nat.log2_lt hk).2 (show n.natAbs < 2 ^ 21 by omega); omega
  have hL := (Nat.log2_eq_iff hk).1 rfl
  have u1 : n.natAbs * 2 ^ (23 - n.natAbs.log2) < 16777216 := by
    have h2 : n.natAbs * 2 ^ (23 - n.natAbs.log2) < 2 ^ (n.natAbs.log2 + 1) * 2 ^ (23 - n.natAbs.log2) := (Nat.mul_lt_mul_right (Nat.two_pow_pos _)).2 hL.2
    rw [← Nat.pow_add, show n.natAbs.log2 + 1 + (23 - n.natAbs.log2) = 24 by omega] at h2
    exact h2
  have u0 : 8388608 ≤ n.natAbs * 2 ^ (23 - n.natAbs.log2) := by
    have h2 : 2 ^ n.natAbs.log2 * 2 ^ (23 - n.natAbs.log2) ≤ n.natAbs * 2 ^ (23 - n.natAbs.log2) := Nat.mul_le_mul_right _ hL.1
    rw [← Nat.pow_add, show n.natAbs.log2 + (23 - n.natAbs.log2) = 23 by omega] at h2
    exact h2
  have := ref06bits_l0 (23 - n.natAbs.log2) 25 n.natAbs 150 x3 u0 u1 (by omega) (by omega) (by omega) (by rw [h3]; split <;> omega)
  refine this.trans ?_
  rw [F32_word n h (by omega), ← h3]
  exact congrArg (fun n : Nat => some (n : Int)) (by omega)
theorem agateref06_bits_s.ev (a0 : Int) (r) (h : agateref06_bits_s.f a0 = some r) : ∃ k, agateref06_bits.f k a0 = some r := by
  unfold agateref06_bits_s.f at h
  split at h
  · rename_i hs
    rw [← h]
    refine ⟨26, ?_⟩
    unfold agateref06_bits.f
    by_cases h0 : a0 = 0
    · rw [if_pos h0, h0]; rfl
    · rw [if_neg h0]
      by_cases h1 : a0 < 0
      · rw [if_pos h1, wrap64_id (by omega) (by omega), agateref06_bits.j0, show -a0 = (a0.natAbs : Int) by omega]
        exact ref06bits_word a0 h0 (by omega) 2147483648 (by rw [if_pos h1])
      · rw [if_neg h1, agateref06_bits.j0]
        have := ref06bits_word a0 h0 (by omega) 0 (by rw [if_neg h1])
        rwa [show (a0.natAbs : Int) = a0 by omega] at this
  · cases h
set_option maxHeartbeats 1000000 in
theorem agateref06_bits_s.calls (a0 : Int) (r : Int) (w : World) (h : agateref06_bits_s.f a0 = some r) :
    Calls Try.prog 58 #[.int .i64 a0] w fun e w' => e = .returned (.int .u32 r) ∧ Drawn0 w w' := by
  obtain ⟨k, hk⟩ := agateref06_bits_s.ev a0 _ h
  exact agateref06_bits.calls k a0 r w hk
end Go.Proofs.Ytpojamikfcmnoaa.X
namespace Go.Proofs.Ytpojamikfcmnoaa.X
open Go.RowKit Go.Proofs.YtpojamikfcmnoaaW.PrintWords Go.Proofs.YtpojamikfcmnoaaW.PrintLast Go.Proofs.YtpojamikfcmnoaaW.PrintMore
attribute [local go_sem] max2_int min2_int max_two min_two max_three min_three max_four min_four
set_option linter.unusedVariables false
set_option linter.unusedSimpArgs false
def agateref06_May.f (a0_0 : Int) (a0_1 : Int) : Option (Bool) := if a0_0 ≥ (-1048576) then (if a0_0 ≤ 1048576 then (if a0_1 ≥ (-1048576) then (some (decide (a0_1 ≤ 1048576))) else (some false)) else (some false)) else (some false)
set_option maxHeartbeats 8000000 in
set_option maxRecDepth 100000 in
theorem agateref06_May.calls (a0_0 : Int) (a0_1 : Int) (r : Bool) (w : World) (h : agateref06_May.f a0_0 a0_1 = some r) :
  Calls Try.prog 52 #[.agg #[.int .i64 a0_0, .int .i64 a0_1]] w fun e w' => e = .returned (.bool r) ∧ Below w.heap.size w w' := by
 have hu23 := Try.underlying23
 have HB := Aside0.mk (Below.refl w.heap.size w)
 have H : (if a0_0 ≥ (-1048576) then (if a0_0 ≤ 1048576 then (if a0_1 ≥ (-1048576) then (some (decide (a0_1 ≤ 1048576))) else (some false)) else (some false)) else (some false)) = some r := h
 clear h
 by_cases c2 : a0_0 ≥ (-1048576)
 ·
  rw [if_pos c2] at H
  have c2b0 : decide ((-1048576) ≤ a0_0) = true := decide_eq_true c2
  clear c2
  by_cases c3 : a0_0 ≤ 1048576
  ·
   rw [if_pos c3] at H
   have c3b0 : decide (a0_0 ≤ 1048576) = true := decide_eq_true c3
   clear c3
   by_cases c4 : a0_1 ≥ (-1048576)
   ·
    rw [if_pos c4] at H
    have c4b0 : decide ((-1048576) ≤ a0_1) = true := decide_eq_true c4
    clear c4
    obtain rfl := Option.some.inj H
    go_enter Try.func52, Try.ntmps52
    go_wp2_with (first | ((with_reducible refine gate_dst (N := 1) rfl ?_); refine box_event ?hg (N := 1) ?hd (cs := #[.int .i64 a0_0, .int .i64 a0_1]) (t := 23) ?hr ?_; (case hd => rfl); (case hg => rfl); (case hr => first | (go_simp; done) | (go_simp; rfl)); intro gb101 hg w5 hbox hb; have n0_ := Aside0.mk (below_step (hbA HB) hb); have n1_ := Aside0.mk (hbox); have n2_ := Aside0.mk ((by rw [hg]; exact (below_size (hbA HB)) : w.heap.size ≤ gb101)); have n3_ := Aside0.mk ((by rw [hg]; exact (below_size (hbA HB)) : w.heap.size ≤ gb101)); clear HB; have HB := n0_; have BK101 := n1_; have GW101 := n2_; have GE101 := n3_; clear n0_ n1_ n2_ n3_; clear hb hbox hg; have hcz6_0 : w5.cell? ⟨gb101, 0, none⟩ = some (.int .i64 a0_0) := bcA BK101 0; have hcz6_1 : w5.cell? ⟨gb101, 1, none⟩ = some (.int .i64 a0_1) := bcA BK101 1; have hfz6_0 := blk_frozen BK101.out 0; have hfz6_1 := blk_frozen BK101.out 1))
    go_ret
    exact ⟨by first | rfl | (simp [errW_none, errW_some] <;> rfl) | (simp [*, errW_none, errW_some] <;> rfl), hbA HB⟩
   ·
    rw [if_neg c4] at H
    have c4b0 : decide ((-1048576) ≤ a0_1) = false := decide_eq_false c4
    clear c4
    obtain rfl := Option.some.inj H
    go_enter Try.func52, Try.ntmps52
    go_wp2_with (first | ((with_reducible refine gate_dst (N := 1) rfl ?_); refine box_event ?hg (N := 1) ?hd (cs := #[.int .i64 a0_0, .int .i64 a0_1]) (t := 23) ?hr ?_; (case hd => rfl); (case hg => rfl); (case hr => first | (go_simp; done) | (go_simp; rfl)); intro gb101 hg w7 hbox hb; have n0_ := Aside0.mk (below_step (hbA HB) hb); have n1_ := Aside0.mk (hbox); have n2_ := Aside0.mk ((by rw [hg]; exact (below_size (hbA HB)) : w.heap.size ≤ gb101)); have n3_ := Aside0.mk ((by rw [hg]; exact (below_size (hbA HB)) : w.heap.size ≤ gb101)); clear HB; have HB := n0_; have BK101 := n1_; have GW101 := n2_; have GE101 := n3_; clear n0_ n1_ n2_ n3_; clear hb hbox hg; have hcz8_0 : w7.cell? ⟨gb101, 0, none⟩ = some (.int .i64 a0_0) := bcA BK101 0; have hcz8_1 : w7.cell? ⟨gb101, 1, none⟩ = some (.int .i64 a0_1) := bcA BK101 1; have hfz8_0 := blk_frozen BK101.out 0; have hfz8_1 := blk_frozen BK101.out 1))
    go_ret
    exact ⟨by first | rfl | (simp [errW_none, errW_some] <;> rfl) | (simp [*, errW_none, errW_some] <;> rfl), hbA HB⟩
  ·
   rw [if_neg c3] at H
   have c3b0 : decide (a0_0 ≤ 1048576) = false := decide_eq_false c3
   clear c3
   obtain rfl := Option.some.inj H
   go_enter Try.func52, Try.ntmps52
   go_wp2_with (first | ((with_reducible refine gate_dst (N := 1) rfl ?_); refine box_event ?hg (N := 1) ?hd (cs := #[.int .i64 a0_0, .int .i64 a0_1]) (t := 23) ?hr ?_; (case hd => rfl); (case hg => rfl); (case hr => first | (go_simp; done) | (go_simp; rfl)); intro gb101 hg w9 hbox hb; have n0_ := Aside0.mk (below_step (hbA HB) hb); have n1_ := Aside0.mk (hbox); have n2_ := Aside0.mk ((by rw [hg]; exact (below_size (hbA HB)) : w.heap.size ≤ gb101)); have n3_ := Aside0.mk ((by rw [hg]; exact (below_size (hbA HB)) : w.heap.size ≤ gb101)); clear HB; have HB := n0_; have BK101 := n1_; have GW101 := n2_; have GE101 := n3_; clear n0_ n1_ n2_ n3_; clear hb hbox hg; have hcz10_0 : w9.cell? ⟨gb101, 0, none⟩ = some (.int .i64 a0_0) := bcA BK101 0; have hcz10_1 : w9.cell? ⟨gb101, 1, none⟩ = some (.int .i64 a0_1) := bcA BK101 1; have hfz10_0 := blk_frozen BK101.out 0; have hfz10_1 := blk_frozen BK101.out 1))
   go_ret
   exact ⟨by first | rfl | (simp [errW_none, errW_some] <;> rfl) | (simp [*, errW_none, errW_some] <;> rfl), hbA HB⟩
 ·
  rw [if_neg c2] at H
  have c2b0 : decide ((-1048576) ≤ a0_0) = false := decide_eq_false c2
  clear c2
  obtain rfl := Option.some.inj H
  go_enter Try.func52, Try.ntmps52
  go_wp2_with (first | ((with_reducible refine gate_dst (N := 1) rfl ?_); refine box_event ?hg (N := 1) ?hd (cs := #[.int .i64 a0_0, .int .i64 a0_1]) (t := 23) ?hr ?_; (case hd => rfl); (case hg => rfl); (case hr => first | (go_simp; done) | (go_simp; rfl)); intro gb101 hg w11 hbox hb; have n0_ := Aside0.mk (below_step (hbA HB) hb); have n1_ := Aside0.mk (hbox); have n2_ := Aside0.mk ((by rw [hg]; exact (below_size (hbA HB)) : w.heap.size ≤ gb101)); have n3_ := Aside0.mk ((by rw [hg]; exact (below_size (hbA HB)) : w.heap.size ≤ gb101)); clear HB; have HB := n0_; have BK101 := n1_; have GW101 := n2_; have GE101 := n3_; clear n0_ n1_ n2_ n3_; clear hb hbox hg; have hcz12_0 : w11.cell? ⟨gb101, 0, none⟩ = some (.int .i64 a0_0) := bcA BK101 0; have hcz12_1 : w11.cell? ⟨gb101, 1, none⟩ = some (.int .i64 a0_1) := bcA BK101 1; have hfz12_0 := blk_frozen BK101.out 0; have hfz12_1 := blk_frozen BK101.out 1))
  go_ret
  exact ⟨by first | rfl | (simp [errW_none, errW_some] <;> rfl) | (simp [*, errW_none, errW_some] <;> rfl), hbA HB⟩
end Go.Proofs.Ytpojamikfcmnoaa.X
namespace Go.Proofs.Ytpojamikfcmnoaa.X
open Go.RowKit Go.Proofs.YtpojamikfcmnoaaW.PrintWords Go.Proofs.YtpojamikfcmnoaaW.PrintLast Go.Proofs.YtpojamikfcmnoaaW.PrintMore
attribute [local go_sem] max2_int min2_int max_two min_two max_three min_three max_four min_four
set_option linter.unusedVariables false
set_option linter.unusedSimpArgs false
def agateref06_May_s.f (a b : Int) : Option Bool := some (mayR a b)
theorem agateref06_May_s.ev (a b : Int) (r) (h : agateref06_May_s.f a b = some r) : ∃ k : Nat, agateref06_May.f a b = some r := by
  refine ⟨0, ?_⟩
  rw [← h]
  unfold agateref06_May.f agateref06_May_s.f mayR
  by_cases h1 : a ≥ -1048576
  · rw [if_pos h1]
    by_cases h2 : a ≤ 1048576
    · rw [if_pos h2, decide_eq_true (⟨h1, h2⟩ : -1048576 ≤ a ∧ a ≤ 1048576), Bool.true_and]
      by_cases h3 : b ≥ -1048576
      · rw [if_pos h3]; congr 1; rw [decide_eq_decide]; exact ⟨fun g => ⟨h3, g⟩, fun g => g.2⟩
      · rw [if_neg h3, decide_eq_false (fun g => h3 g.1)]
    · rw [if_neg h2, decide_eq_false (fun g => h2 g.2)]; rfl
  · rw [if_neg h1, decide_eq_false (fun g => h1 g.1)]; rfl
set_option maxHeartbeats 1000000 in
theorem agateref06_May_s.calls (a0_0 : Int) (a0_1 : Int) (r : Bool) (w : World) (h : agateref06_May_s.f a0_0 a0_1 = some r) :
    Calls Try.prog 52 #[.agg #[.int .i64 a0_0, .int .i64 a0_1]] w fun e w' => e = .returned (.bool r) ∧ Below w.heap.size w w' := by
  obtain ⟨k, hk⟩ := agateref06_May_s.ev a0_0 a0_1 _ h
  exact agateref06_May.calls a0_0 a0_1 r w hk
end Go.Proofs.Ytpojamikfcmnoaa.X
namespace Go.Proofs.Ytpojamikfcmnoaa.X
open Go.RowKit Go.Proofs.YtpojamikfcmnoaaW.PrintWords Go.Proofs.YtpojamikfcmnoaaW.PrintLast Go.Proofs.YtpojamikfcmnoaaW.PrintMore
attribute [local go_sem] max2_int min2_int max_two min_two max_three min_three max_four min_four
set_option linter.unusedVariables false
set_option linter.unusedSimpArgs false
def agateref06_Put.f (a0_0 : Int) (a0_1 : Int) : Option (ByteArray × Int) := (agateref06_May_s.f a0_0 a0_1).bind fun t102 => (if t102 = true then ((agateref06_bits_s.f a0_0).bind fun t103 => ((agateref06_laid.f t103).bind fun t104 => ((agateref06_bits_s.f a0_1).bind fun t105 => ((agateref06_laid.f t105).bind fun t106 => (if t104.size + t106.size ≤ 9223372036854775807 then (some (t104 ++ t106, 0)) else (none)))))) else (some ((⟨#[]⟩ : ByteArray), 17)))
def agateref06_Put.T3 : Bool × List (List Nat × List Nat) := (true, [([], []), ([0], [0]), ([1], [1]), ([2, 2], [2]), ([], []), ([4], [4]), ([5, 3], [5]), ([6, 6], [6]), ([3, 7], [3, 7]), ([8, 7, 0, 1, 2, 3, 4, 5, 6, 7, 8], [8]), ([9, 0, 1, 2, 3, 4, 5, 6, 7, 8, 9], [])])
def agateref06_Put.B3 : List Nat := [0, 1, 3, 7, 0, 16, 63, 127, 255, 511, 1023]
theorem agateref06_Put.tab3 : rtab .any (opsOf Try.f20 3) = agateref06_Put.T3 := by kernel_rfl
theorem agateref06_Put.bits3 : waitsOk agateref06_Put.T3.2 agateref06_Put.B3 = true := by kernel_rfl
set_option maxHeartbeats 8000000 in
set_option maxRecDepth 100000 in
theorem agateref06_Put.calls (a0_0 : Int) (a0_1 : Int) (r1 : ByteArray) (r2 : Int) (w : World) (h : agateref06_Put.f a0_0 a0_1 = some (r1, r2)) :
  Calls Try.prog 20 #[.agg #[.int .i64 a0_0, .int .i64 a0_1]] w fun e w' => e = .returned (.tuple #[.string r1, .int .i64 r2]) ∧ Below w.heap.size w w' := by
 have hu23 := Try.underlying23
 have HB := Aside0.mk (Below.refl w.heap.size w)
 have H : ((agateref06_May_s.f a0_0 a0_1).bind fun t102 => (if t102 = true then ((agateref06_bits_s.f a0_0).bind fun t103 => ((agateref06_laid.f t103).bind fun t104 => ((agateref06_bits_s.f a0_1).bind fun t105 => ((agateref06_laid.f t105).bind fun t106 => (if t104.size + t106.size ≤ 9223372036854775807 then (some (t104 ++ t106, 0)) else (none)))))) else (some ((⟨#[]⟩ : ByteArray), 17)))) = some (r1, r2) := h
 clear h
 replace H := Option.bind_eq_some_iff.mp H
 obtain ⟨t102, A20, H⟩ := H
 replace H : (if t102 = true then ((agateref06_bits_s.f a0_0).bind fun t103 => ((agateref06_laid.f t103).bind fun t104 => ((agateref06_bits_s.f a0_1).bind fun t105 => ((agateref06_laid.f t105).bind fun t106 => (if t104.size + t106.size ≤ 9223372036854775807 then (some (t104 ++ t106, 0)) else (none)))))) else (some ((⟨#[]⟩ : ByteArray), 17))) = some (r1, r2) := H
 have A2 := Aside0.mk A20
 clear A20
 by_cases c3 : t102 = true
 ·
  subst c3
  have H1 : ((agateref06_bits_s.f a0_0).bind fun t103 => ((agateref06_laid.f t103).bind fun t104 => ((agateref06_bits_s.f a0_1).bind fun t105 => ((agateref06_laid.f t105).bind fun t106 => (if t104.size + t106.size ≤ 9223372036854775807 then (some (t104 ++ t106, 0)) else (none)))))) = some (r1, r2) := by rw [if_pos rfl] at H; exact H
  clear H
  have H := H1
  clear H1
  replace H := Option.bind_eq_some_iff.mp H
  obtain ⟨t103, A40, H⟩ := H
  replace H : ((agateref06_laid.f t103).bind fun t104 => ((agateref06_bits_s.f a0_1).bind fun t105 => ((agateref06_laid.f t105).bind fun t106 => (if t104.size + t106.size ≤ 9223372036854775807 then (some (t104 ++ t106, 0)) else (none))))) = some (r1, r2) := H
  have A4 := Aside0.mk A40
  clear A40
  replace H := Option.bind_eq_some_iff.mp H
  obtain ⟨t104, A50, H⟩ := H
  replace H : ((agateref06_bits_s.f a0_1).bind fun t105 => ((agateref06_laid.f t105).bind fun t106 => (if t104.size + t106.size ≤ 9223372036854775807 then (some (t104 ++ t106, 0)) else (none)))) = some (r1, r2) := H
  have A5 := Aside0.mk A50
  clear A50
  replace H := Option.bind_eq_some_iff.mp H
  obtain ⟨t105, A60, H⟩ := H
  replace H : ((agateref06_laid.f t105).bind fun t106 => (if t104.size + t106.size ≤ 9223372036854775807 then (some (t104 ++ t106, 0)) else (none))) = some (r1, r2) := H
  have A6 := Aside0.mk A60
  clear A60
  replace H := Option.bind_eq_some_iff.mp H
  obtain ⟨t106, A70, H⟩ := H
  replace H : (if t104.size + t106.size ≤ 9223372036854775807 then (some (t104 ++ t106, 0)) else (none)) = some (r1, r2) := H
  have A7 := Aside0.mk A70
  clear A70
  by_cases c8 : t104.size + t106.size ≤ 9223372036854775807
  ·
   rw [if_pos c8] at H
   have c8b0 := eq_true c8
   have c8b1 : decide (t104.size + t106.size ≤ 9223372036854775807) = true := decide_eq_true c8
   try have c8b2 : (9223372036854775807 < t104.size + t106.size) = False := eq_false (Nat.not_lt.2 c8)
   try have c8b3 := c8b2
   try simp only [ByteArray.size_append] at c8b3
   simp only [Option.some.injEq, Prod.mk.injEq] at H
   obtain ⟨rfl, rfl⟩ := H
   go_enter Try.func20, Try.ntmps20
   try go_wp2_with (first | ((with_reducible refine gate_dst (N := 1) rfl ?_); refine box_event ?hg (N := 1) ?hd (cs := #[.int .i64 a0_0, .int .i64 a0_1]) (t := 23) ?hr ?_; (case hd => rfl); (case hg => rfl); (case hr => first | (go_simp; done) | (go_simp; rfl)); intro gb101 hg w9 hbox hb; have n0_ := Aside0.mk (below_step (hbA HB) hb); have n1_ := Aside0.mk (hbox); have n2_ := Aside0.mk ((by rw [hg]; exact (below_size (hbA HB)) : w.heap.size ≤ gb101)); have n3_ := Aside0.mk ((by rw [hg]; exact (below_size (hbA HB)) : w.heap.size ≤ gb101)); clear HB; have HB := n0_; have BK101 := n1_; have GW101 := n2_; have GE101 := n3_; clear n0_ n1_ n2_ n3_; clear hb hbox hg; have hcz10_0 : w9.cell? ⟨gb101, 0, none⟩ = some (.int .i64 a0_0) := bcA BK101 0; have hcz10_1 : w9.cell? ⟨gb101, 1, none⟩ = some (.int .i64 a0_1) := bcA BK101 1; have hfz10_0 := blk_frozen BK101.out 0; have hfz10_1 := blk_frozen BK101.out 1) | ((with_reducible refine gate_callee (f := 52) rfl ?_); refine goesL_ (some 5) rfl rfl Try.func52 (by kernel_rfl) rfl #[.agg #[.int .i64 a0_0, .int .i64 a0_1]] rfl (by (try simp only [List.map_toArray, List.map_cons, List.map_nil]); first | done | rfl | (simp only [List.length_drop, List.length_take]; rfl)) ?_; (with_reducible refine (agateref06_May_s.calls a0_0 a0_1 true _ A2.out).mono ?_); rintro e w11 ⟨rfl, hb⟩; refine ⟨_, rfl, ?_⟩; have n0_ := Aside0.mk (blk_below (g := gb101) (bkA BK101) hb); have n1_ := Aside0.mk (below_step (hbA HB) hb); clear BK101; clear HB; have BK101 := n0_; have HB := n1_; clear n0_ n1_; (try clear hb); (try clear hb2); (try clear hk); (try clear hi)))
   have n0_ := Aside0.mk (blk_drew BK101.out)
   have n1_ := Aside0.mk (below_drew1 HB.out)
   clear BK101; clear HB; have BK101 := n0_; have HB := n1_; clear n0_ n1_
   refine start_ (n := 11) (S := fun w' => w'.cell? ⟨gb101, 0, none⟩ = some (.int .i64 a0_0) ∧ w'.cell? ⟨gb101, 1, none⟩ = some (.int .i64 a0_1)) (ds := []) #[false, false, false, false, false, false, false, false, false, false, false] (by kernel_rfl) rfl rfl ⟨bcA BK101 0, bcA BK101 1⟩ (fun hHeld => ?_); refine with_tabW agateref06_Put.tab3 agateref06_Put.bits3 (fun HT_ HW_ => ?_)
   generalize w11.drew = w12 at BK101 HB hHeld ⊢
   refine pure_ (i := 0) (N := some 7) (v := ?_) (a' := ?_) #[true, false, false, false, false, false, false, false, false, false, false] rfl rfl (any_of HT_.out (by kernel_rfl)) (fun _ _ _ h => h) (Or.inl ⟨by rfl, ?_⟩) ?_ ?_
   rotate_left
   ·
    intro w'
    go_simp
    with_reducible rfl
   rotate_left
   ·
    simp only [Act.put, List.setIfInBounds_toArray, List.set_cons_zero, List.set_cons_succ, i64_w, i32_w]
    rfl
   refine pure_ (i := 4) (N := some 11) (v := ?_) (a' := ?_) #[true, false, false, false, true, false, false, false, false, false, false] rfl rfl (any_of HT_.out (by kernel_rfl)) (fun _ _ _ h => h) (Or.inl ⟨by rfl, ?_⟩) ?_ ?_
   rotate_left
   ·
    intro w'
    go_simp
    with_reducible rfl
   rotate_left
   ·
    simp only [Act.put, List.setIfInBounds_toArray, List.set_cons_zero, List.set_cons_succ, i64_w, i32_w]
    rfl
   refine take_ (i := 1) (N := some 8) (v := ?_) (a' := ?_) #[true, true, false, false, true, false, false, false, false, false, false] rfl rfl (take_ofW HT_.out HW_.out (by kernel_rfl)) (fun _ _ _ h => h) (Or.inl ⟨by rfl, ?_⟩) hHeld ?_ ?_
   rotate_left
   ·
    rintro w' ⟨s0, s1⟩
    go_simp
    with_reducible rfl
   rotate_left
   ·
    simp only [Act.put, List.setIfInBounds_toArray, List.set_cons_zero, List.set_cons_succ, i64_w, i32_w]
    rfl
   refine take_ (i := 5) (N := some 12) (v := ?_) (a' := ?_) #[true, true, false, false, true, true, false, false, false, false, false] rfl rfl (take_ofW HT_.out HW_.out (by kernel_rfl)) (fun _ _ _ h => h) (Or.inl ⟨by rfl, ?_⟩) hHeld ?_ ?_
   rotate_left
   ·
    rintro w' ⟨s0, s1⟩
    go_simp
    with_reducible rfl
   rotate_left
   ·
    simp only [Act.put, List.setIfInBounds_toArray, List.set_cons_zero, List.set_cons_succ, i64_w, i32_w]
    rfl
   refine one_ (i := 2) (N := some 9) #[true, true, true, false, true, true, false, false, false, false, false] rfl rfl (one_of HT_.out (by kernel_rfl)) (by decide) (fun K hK => ?_)
   refine goes_ Try.func58 (by kernel_rfl) rfl #[.int .i64 a0_0] (by rfl) rfl rfl (by (try simp only [List.map_toArray, List.map_cons, List.map_nil]); first | done | rfl | (simp only [List.length_drop, List.length_take]; rfl)) ?_
   with_reducible refine (agateref06_bits_s.calls a0_0 t103 _ A4.out).mono ?_
   rintro e w' ⟨rfl, ⟨nd, rfl⟩⟩
   refine ⟨_, rfl, ?_⟩
   refine hK.out _ _ ⟨bcA BK101 0, bcA BK101 1⟩ (fun hHeld => ?_)
   clear hK K
   refine norm_ (a' := ?_) ?_ ?_
   rotate_left
   ·
    show Act.put _ (some 9) _ = _
    simp only [Act.put, List.setIfInBounds_toArray, List.set_cons_zero, List.set_cons_succ, i64_w, i32_w]
    rfl
   refine one_ (i := 3) (N := some 10) #[true, true, true, true, true, true, false, false, false, false, false] rfl rfl (one_of HT_.out (by kernel_rfl)) (by decide) (fun K hK => ?_)
   refine goes_ Try.func57 (by kernel_rfl) rfl #[.int .u32 t103] (by rfl) rfl rfl (by (try simp only [List.map_toArray, List.map_cons, List.map_nil]); first | done | rfl | (simp only [List.length_drop, List.length_take]; rfl)) ?_
   with_reducible refine (agateref06_laid.calls t103 t104 _ A5.out).mono ?_
   rintro e w13 ⟨rfl, hb⟩
   refine ⟨_, rfl, ?_⟩
   have n0_ := Aside0.mk (blk_below (g := gb101) (bkA BK101) hb); have n1_ := Aside0.mk (below_step (hbA HB) hb); clear BK101; clear HB; have BK101 := n0_; have HB := n1_; clear n0_ n1_; try clear hb
   refine hK.out _ _ ⟨bcA BK101 0, bcA BK101 1⟩ (fun hHeld => ?_)
   clear hK K
   refine norm_ (a' := ?_) ?_ ?_
   rotate_left
   ·
    show Act.put _ (some 10) _ = _
    simp only [Act.put, List.setIfInBounds_toArray, List.set_cons_zero, List.set_cons_succ, i64_w, i32_w]
    rfl
   refine one_ (i := 6) (N := some 13) #[true, true, true, true, true, true, true, false, false, false, false] rfl rfl (one_of HT_.out (by kernel_rfl)) (by decide) (fun K hK => ?_)
   refine goes_ Try.func58 (by kernel_rfl) rfl #[.int .i64 a0_1] (by rfl) rfl rfl (by (try simp only [List.map_toArray, List.map_cons, List.map_nil]); first | done | rfl | (simp only [List.length_drop, List.length_take]; rfl)) ?_
   with_reducible refine (agateref06_bits_s.calls a0_1 t105 _ A6.out).mono ?_
   rintro e w' ⟨rfl, ⟨nd, rfl⟩⟩
   refine ⟨_, rfl, ?_⟩
   refine hK.out _ _ ⟨bcA BK101 0, bcA BK101 1⟩ (fun hHeld => ?_)
   clear hK K
   refine norm_ (a' := ?_) ?_ ?_
   rotate_left
   ·
    show Act.put _ (some 13) _ = _
    simp only [Act.put, List.setIfInBounds_toArray, List.set_cons_zero, List.set_cons_succ, i64_w, i32_w]
    rfl
   refine one_ (i := 7) (N := some 14) #[true, true, true, true, true, true, true, true, false, false, false] rfl rfl (one_of HT_.out (by kernel_rfl)) (by decide) (fun K hK => ?_)
   refine goes_ Try.func57 (by kernel_rfl) rfl #[.int .u32 t105] (by rfl) rfl rfl (by (try simp only [List.map_toArray, List.map_cons, List.map_nil]); first | done | rfl | (simp only [List.length_drop, List.length_take]; rfl)) ?_
   with_reducible refine (agateref06_laid.calls t105 t106 _ A7.out).mono ?_
   rintro e w14 ⟨rfl, hb⟩
   refine ⟨_, rfl, ?_⟩
   have n0_ := Aside0.mk (blk_below (g := gb101) (bkA BK101) hb); have n1_ := Aside0.mk (below_step (hbA HB) hb); clear BK101; clear HB; have BK101 := n0_; have HB := n1_; clear n0_ n1_; try clear hb
   refine hK.out _ _ ⟨bcA BK101 0, bcA BK101 1⟩ (fun hHeld => ?_)
   clear hK K
   refine norm_ (a' := ?_) ?_ ?_
   rotate_left
   ·
    show Act.put _ (some 14) _ = _
    simp only [Act.put, List.setIfInBounds_toArray, List.set_cons_zero, List.set_cons_succ, i64_w, i32_w]
    rfl
   refine pure_ (i := 8) (N := some 15) (v := ?_) (a' := ?_) #[true, true, true, true, true, true, true, true, true, false, false] rfl rfl (any_of HT_.out (by kernel_rfl)) (fun _ _ _ h => h) (Or.inl ⟨by rfl, ?_⟩) ?_ ?_
   rotate_left
   ·
    intro w'
    go_simp
    with_reducible rfl
   rotate_left
   ·
    simp only [Act.put, List.setIfInBounds_toArray, List.set_cons_zero, List.set_cons_succ, i64_w, i32_w]
    rfl
   refine pure_ (i := 9) (N := some 2) (v := ?_) (a' := ?_) #[true, true, true, true, true, true, true, true, true, true, false] rfl rfl (any_of HT_.out (by kernel_rfl)) (fun _ _ _ h => h) (Or.inl ⟨by rfl, ?_⟩) ?_ ?_
   rotate_left
   ·
    intro w'
    go_simp
    with_reducible rfl
   rotate_left
   ·
    simp only [Act.put, List.setIfInBounds_toArray, List.set_cons_zero, List.set_cons_succ, i64_w, i32_w]
    rfl
   refine pure_ (i := 10) (N := some 3) (v := ?_) (a' := ?_) #[true, true, true, true, true, true, true, true, true, true, true] rfl rfl (any_of HT_.out (by kernel_rfl)) (fun _ _ _ h => h) (Or.inl ⟨by rfl, ?_⟩) ?_ ?_
   rotate_left
   ·
    intro w'
    go_simp
    with_reducible rfl
   rotate_left
   ·
    simp only [Act.put, List.setIfInBounds_toArray, List.set_cons_zero, List.set_cons_succ, i64_w, i32_w]
    rfl
   refine done_ (done_of HT_.out (by kernel_rfl)) ?_
   try go_wp2
   go_ret2
   exact ⟨by first | rfl | (simp [errW_none, errW_some] <;> rfl) | (simp [*, errW_none, errW_some] <;> rfl), hbA HB⟩
  ·
   rw [if_neg c8] at H
   exact absurd H (by simp)
 ·
  replace c3 := Bool.eq_false_iff.mpr c3
  subst c3
  have H1 : (some ((⟨#[]⟩ : ByteArray), 17)) = some (r1, r2) := by rw [if_neg (show ¬ (false = true) by decide)] at H; exact H
  clear H
  have H := H1
  clear H1
  simp only [Option.some.injEq, Prod.mk.injEq] at H
  obtain ⟨rfl, rfl⟩ := H
  go_enter Try.func20, Try.ntmps20
  go_wp2_with (first | ((with_reducible refine gate_dst (N := 1) rfl ?_); refine box_event ?hg (N := 1) ?hd (cs := #[.int .i64 a0_0, .int .i64 a0_1]) (t := 23) ?hr ?_; (case hd => rfl); (case hg => rfl); (case hr => first | (go_simp; done) | (go_simp; rfl)); intro gb101 hg w15 hbox hb; have n0_ := Aside0.mk (below_step (hbA HB) hb); have n1_ := Aside0.mk (hbox); have n2_ := Aside0.mk ((by rw [hg]; exact (below_size (hbA HB)) : w.heap.size ≤ gb101)); have n3_ := Aside0.mk ((by rw [hg]; exact (below_size (hbA HB)) : w.heap.size ≤ gb101)); clear HB; have HB := n0_; have BK101 := n1_; have GW101 := n2_; have GE101 := n3_; clear n0_ n1_ n2_ n3_; clear hb hbox hg; have hcz16_0 : w15.cell? ⟨gb101, 0, none⟩ = some (.int .i64 a0_0) := bcA BK101 0; have hcz16_1 : w15.cell? ⟨gb101, 1, none⟩ = some (.int .i64 a0_1) := bcA BK101 1; have hfz16_0 := blk_frozen BK101.out 0; have hfz16_1 := blk_frozen BK101.out 1) | ((with_reducible refine gate_callee (f := 52) rfl ?_); refine goesL_ (some 5) rfl rfl Try.func52 (by kernel_rfl) rfl #[.agg #[.int .i64 a0_0, .int .i64 a0_1]] rfl (by (try simp only [List.map_toArray, List.map_cons, List.map_nil]); first | done | rfl | (simp only [List.length_drop, List.length_take]; rfl)) ?_; (with_reducible refine (agateref06_May_s.calls a0_0 a0_1 false _ A2.out).mono ?_); rintro e w17 ⟨rfl, hb⟩; refine ⟨_, rfl, ?_⟩; have n0_ := Aside0.mk (blk_below (g := gb101) (bkA BK101) hb); have n1_ := Aside0.mk (below_step (hbA HB) hb); clear BK101; clear HB; have BK101 := n0_; have HB := n1_; clear n0_ n1_; (try clear hb); (try clear hb2); (try clear hk); (try clear hi)))
  go_ret2
  exact ⟨by first | rfl | (simp [errW_none, errW_some] <;> rfl) | (simp [*, errW_none, errW_some] <;> rfl), hbA HB⟩
end Go.Proofs.Ytpojamikfcmnoaa.X
