import Derived.Test.YtpojamikfcmnoaaMGaussBack0
import Derived.Test.YtpojamikfcmnoaaMGaussBack2
import Derived.Test.YtpojamikfcmnoaaMGaussBack3
import Derived.Test.YtpojamikfcmnoaaMGaussBack6
import Derived.Test.YtpojamikfcmnoaaMGaussBack1
import Derived.Test.YtpojamikfcmnoaaMGaussBack4
import Derived.WalkLawsBesides
import Derived.Deep.RegionHeld3
-- by xprint.py, a program of this session, over the kit's print.py
namespace Go.Proofs.Ytpojamikfcmnoaa.X
open Go.RowKit Go.Proofs.YtpojamikfcmnoaaW.PrintWords Go.Proofs.YtpojamikfcmnoaaW.PrintLast Go.Proofs.YtpojamikfcmnoaaW.PrintMore
attribute [local go_sem] max2_int min2_int max_two min_two max_three min_three max_four min_four   -- for this text's walks alone
set_option linter.unusedVariables false
set_option linter.unusedSimpArgs false

theorem laidV_bytes (v : Nat) : laidV v = ⟨#[UInt8.ofNat (v % 256), UInt8.ofNat (v / 256 % 256), UInt8.ofNat (v / 65536 % 256), UInt8.ofNat (v / 16777216 % 256)]⟩ := by
  unfold laidV strOfNums
  have e0 : ((v : Int) % 256).toNat = v % 256 := by omega
  have e1 : ((v : Int) / 256 % 256).toNat = v / 256 % 256 := by omega
  have e2 : ((v : Int) / 65536 % 256).toNat = v / 65536 % 256 := by omega
  have e3 : ((v : Int) / 16777216 % 256).toNat = v / 16777216 % 256 := by omega
  simp only [List.map_cons, List.map_nil, e0, e1, e2, e3]
theorem bytes_append (a b : Array UInt8) : (⟨a⟩ : ByteArray) ++ (⟨b⟩ : ByteArray) = ⟨a ++ b⟩ := by
  apply ByteArray.ext
  rw [ByteArray.data_append]
theorem wd_four (b0 b1 b2 b3 : UInt8) : wd ⟨#[b0, b1, b2, b3]⟩ = b0.toNat + b1.toNat * 256 + b2.toNat * 65536 + b3.toNat * 16777216 := by
  unfold wd
  rw [show bt ⟨#[b0, b1, b2, b3]⟩ 0 = (b0.toNat : Int) from rfl, show bt ⟨#[b0, b1, b2, b3]⟩ 1 = (b1.toNat : Int) from rfl, show bt ⟨#[b0, b1, b2, b3]⟩ 2 = (b2.toNat : Int) from rfl, show bt ⟨#[b0, b1, b2, b3]⟩ 3 = (b3.toNat : Int) from rfl]
  omega
theorem wd_eight (b0 b1 b2 b3 b4 b5 b6 b7 : UInt8) : wd ⟨#[b0, b1, b2, b3, b4, b5, b6, b7]⟩ = b0.toNat + b1.toNat * 256 + b2.toNat * 65536 + b3.toNat * 16777216 := by
  unfold wd
  rw [show bt ⟨#[b0, b1, b2, b3, b4, b5, b6, b7]⟩ 0 = (b0.toNat : Int) from rfl, show bt ⟨#[b0, b1, b2, b3, b4, b5, b6, b7]⟩ 1 = (b1.toNat : Int) from rfl, show bt ⟨#[b0, b1, b2, b3, b4, b5, b6, b7]⟩ 2 = (b2.toNat : Int) from rfl, show bt ⟨#[b0, b1, b2, b3, b4, b5, b6, b7]⟩ 3 = (b3.toNat : Int) from rfl]
  omega
theorem extract_eight (b0 b1 b2 b3 b4 b5 b6 b7 : UInt8) : (⟨#[b0, b1, b2, b3, b4, b5, b6, b7]⟩ : ByteArray).extract 4 8 = ⟨#[b4, b5, b6, b7]⟩ := by
  apply ByteArray.ext
  rw [ByteArray.data_extract]
  rfl
theorem laid_wd (b0 b1 b2 b3 : UInt8) : laidV (b0.toNat + b1.toNat * 256 + b2.toNat * 65536 + b3.toNat * 16777216) = ⟨#[b0, b1, b2, b3]⟩ := by
  have h0 := b0.toNat_lt
  have h1 := b1.toNat_lt
  have h2 := b2.toNat_lt
  have h3 := b3.toNat_lt
  rw [laidV_bytes]
  rw [show (b0.toNat + b1.toNat * 256 + b2.toNat * 65536 + b3.toNat * 16777216) % 256 = b0.toNat by omega, show (b0.toNat + b1.toNat * 256 + b2.toNat * 65536 + b3.toNat * 16777216) / 256 % 256 = b1.toNat by omega, show (b0.toNat + b1.toNat * 256 + b2.toNat * 65536 + b3.toNat * 16777216) / 65536 % 256 = b2.toNat by omega, show (b0.toNat + b1.toNat * 256 + b2.toNat * 65536 + b3.toNat * 16777216) / 16777216 % 256 = b3.toNat by omega]
  simp only [UInt8.ofNat_toNat]
theorem wholeS_F32 (n : Int) (h : -1048576 ≤ n ∧ n ≤ 1048576) : wholeS (floatOfInt .f32 n) = (n, true) := by
  by_cases h0 : n = 0
  · subst h0
    rw [show floatOfInt .f32 0 = 0 by decide +kernel]
    unfold wholeS; rw [if_pos rfl]
  · have hk : n.natAbs ≠ 0 := by omega
    have hl : n.natAbs.log2 ≤ 20 := by
      have := (Nat.log2_lt hk).2 (show n.natAbs < 2 ^ 21 by omega); omega
    have hL := (Nat.log2_eq_iff hk).1 rfl
    rw [F32_word n h0 (by omega)]
    have u1 : n.natAbs * 2 ^ (23 - n.natAbs.log2) < 16777216 := by
      have h2 : n.natAbs * 2 ^ (23 - n.natAbs.log2) < 2 ^ (n.natAbs.log2 + 1) * 2 ^ (23 - n.natAbs.log2) := (Nat.mul_lt_mul_right (Nat.two_pow_pos _)).2 hL.2
      rw [← Nat.pow_add, show n.natAbs.log2 + 1 + (23 - n.natAbs.log2) = 24 by omega] at h2
      exact h2
    have u0 : 8388608 ≤ n.natAbs * 2 ^ (23 - n.natAbs.log2) := by
      have h2 : 2 ^ n.natAbs.log2 * 2 ^ (23 - n.natAbs.log2) ≤ n.natAbs * 2 ^ (23 - n.natAbs.log2) := Nat.mul_le_mul_right _ hL.1
      rw [← Nat.pow_add, show n.natAbs.log2 + (23 - n.natAbs.log2) = 23 by omega] at h2
      exact h2
    have hJ : 0 < 2 ^ (23 - n.natAbs.log2) := Nat.two_pow_pos _
    have m1 : n.natAbs * 2 ^ (23 - n.natAbs.log2) % 2 ^ (23 - n.natAbs.log2) = 0 := Nat.mul_mod_left _ _
    have m2 : n.natAbs * 2 ^ (23 - n.natAbs.log2) / 2 ^ (23 - n.natAbs.log2) = n.natAbs := Nat.mul_div_cancel _ hJ
    have hk1 : n.natAbs ≤ 1048576 := by omega
    have hsg := sgn_int n
    generalize hKK : n.natAbs * 2 ^ (23 - n.natAbs.log2) = K at *
    generalize hLL : n.natAbs.log2 = L at *
    have key : ∀ v : Nat, v % 8388608 + 8388608 = K → v / 8388608 % 256 = L + 127 → v ≠ 0 → decide (v ≥ 2147483648) = decide (n < 0) → wholeS v = (n, true) := by
      intro v e1 e2 e3 e4
      unfold wholeS
      rw [if_neg e3, e2, if_neg (by omega), e1, show 150 - (L + 127) = 23 - L by omega, if_pos m1, m2, e4, hsg, decide_eq_true hk1]
    by_cases hn : n < 0
    · rw [if_pos hn]
      exact key _ (by omega) (by omega) (by omega) (by rw [decide_eq_decide]; omega)
    · rw [if_neg hn]
      exact key _ (by omega) (by omega) (by omega) (by rw [decide_eq_decide]; omega)
theorem ofNat_lt (n : Nat) (h : n < 256) : (UInt8.ofNat n).toNat = n := by
  rw [UInt8.toNat_ofNat']; exact Nat.mod_eq_of_lt h
/-- what is put is read as it was -/
theorem readR_put (a b : Int) (h : mayR a b = true) : readR (laidV (floatOfInt .f32 a) ++ laidV (floatOfInt .f32 b)) = (a, b, 0) := by
  obtain ⟨ha, hb⟩ := mayR_of0 h
  have w1 := wholeS_F32 a ha
  have w2 := wholeS_F32 b hb
  have l1 := F32_lt a
  have l2 := F32_lt b
  generalize floatOfInt .f32 a = v at *
  generalize floatOfInt .f32 b = u at *
  have e : laidV v ++ laidV u = ⟨#[UInt8.ofNat (v % 256), UInt8.ofNat (v / 256 % 256), UInt8.ofNat (v / 65536 % 256), UInt8.ofNat (v / 16777216 % 256), UInt8.ofNat (u % 256), UInt8.ofNat (u / 256 % 256), UInt8.ofNat (u / 65536 % 256), UInt8.ofNat (u / 16777216 % 256)]⟩ := by
    rw [laidV_bytes, laidV_bytes, bytes_append]; rfl
  rw [e]
  have s8 : (⟨#[UInt8.ofNat (v % 256), UInt8.ofNat (v / 256 % 256), UInt8.ofNat (v / 65536 % 256), UInt8.ofNat (v / 16777216 % 256), UInt8.ofNat (u % 256), UInt8.ofNat (u / 256 % 256), UInt8.ofNat (u / 65536 % 256), UInt8.ofNat (u / 16777216 % 256)]⟩ : ByteArray).size = 8 := rfl
  unfold readR
  rw [s8, if_neg (by decide), if_neg (by decide), wd_eight, extract_eight, wd_four]
  rw [ofNat_lt _ (by omega), ofNat_lt _ (by omega), ofNat_lt _ (by omega), ofNat_lt _ (by omega), ofNat_lt _ (by omega), ofNat_lt _ (by omega), ofNat_lt _ (by omega), ofNat_lt _ (by omega)]
  rw [show v % 256 + v / 256 % 256 * 256 + v / 65536 % 256 * 65536 + v / 16777216 % 256 * 16777216 = v by omega, show u % 256 + u / 256 % 256 * 256 + u / 65536 % 256 * 65536 + u / 16777216 % 256 * 16777216 = u by omega, w1, w2]
  rfl
theorem eight_bytes (b : ByteArray) (h : b.size = 8) : ∃ b0 b1 b2 b3 b4 b5 b6 b7, b = ⟨#[b0, b1, b2, b3, b4, b5, b6, b7]⟩ := by
  obtain ⟨⟨l⟩⟩ := b
  have hl : l.length = 8 := h
  match l, hl with
  | [b0, b1, b2, b3, b4, b5, b6, b7], _ => exact ⟨b0, b1, b2, b3, b4, b5, b6, b7, rfl⟩
/-- what is read is put as it was -/
theorem put_readR (b : ByteArray) (h : (readR b).2.2 = 0) : mayR (readR b).1 (readR b).2.1 = true ∧ laidV (floatOfInt .f32 (readR b).1) ++ laidV (floatOfInt .f32 (readR b).2.1) = b := by
  have hs := readR_small b
  refine ⟨by unfold mayR; rw [decide_eq_true hs.1, decide_eq_true hs.2]; rfl, ?_⟩
  clear hs
  unfold readR at h ⊢
  by_cases h1 : b.size < 8
  · rw [if_pos h1] at h; exact absurd h (by decide)
  · rw [if_neg h1] at h ⊢
    by_cases h2 : b.size > 8
    · rw [if_pos h2] at h; exact absurd h (by decide)
    · rw [if_neg h2] at h ⊢
      by_cases h3 : ((wholeS (wd b)).2 && (wholeS (wd (b.extract 4 b.size))).2) = true
      · rw [if_pos h3]
        rw [Bool.and_eq_true] at h3
        have hw : ∀ v, v < 4294967296 → (wholeS v).2 = true → floatOfInt .f32 (wholeS v).1 = v := by
          intro v hv ht
          cases hn : (Ieee.single.read v).isNaN with
          | true => rw [whole_nan v hv hn] at ht; cases ht
          | false => exact ((whole_wide v hv hn).2 ht).2.2.symm
        show laidV (floatOfInt .f32 (wholeS (wd b)).1) ++ laidV (floatOfInt .f32 (wholeS (wd (b.extract 4 b.size))).1) = b
        rw [hw _ (wd_lt b) h3.1, hw _ (wd_lt _) h3.2]
        obtain ⟨b0, b1, b2, b3, b4, b5, b6, b7, rfl⟩ := eight_bytes b (by omega)
        rw [show (⟨#[b0, b1, b2, b3, b4, b5, b6, b7]⟩ : ByteArray).size = 8 from rfl, extract_eight, wd_eight, wd_four, laid_wd, laid_wd, bytes_append]
        rfl
      · rw [if_neg h3] at h; exact absurd h (by decide)
/-! whatever a float's operation gives -/
theorem arith_any (op : BinOp) (hop : op = .add ∨ op = .sub ∨ op = .mul) (x y : Nat) : ∃ (g : World → Nat) (k : Nat), ∀ w, (Op.floatArith op .f64 x y).run Try.prog w = .ok (.float .f64 (g w)) (w.drewN k) := by
  cases hf : floatBits op .f64 x y with
  | some r => exact ⟨fun _ => r, 0, fun w => run_floatArith w hf⟩
  | none =>
    refine ⟨fun w => (Question.nanBits .f64 x y).cut (w.tape w.drawn (Question.nanBits .f64 x y)), 1, fun w => ?_⟩
    unfold floatBits at hf
    rcases hop with rfl | rfl | rfl <;> simp only at hf <;> simp [Op.floatArith, hf, Question.forced, World.drewN]
theorem float_add_any (x y : Nat) : ∃ (g : World → Nat) (k : Nat), ∀ w, (binOp .add 47 (.float .f64 x) (.float .f64 y)).run Try.prog w = .ok (.float .f64 (g w)) (w.drewN k) := by
  obtain ⟨g, k, h⟩ := arith_any .add (Or.inl rfl) x y
  exact ⟨g, k, fun w => h w⟩
theorem complex_add_any (a b c d : Nat) : ∃ (g1 g2 : World → Nat) (k : Nat), ∀ w, (binOp .add 26 (.complex .f64 a b) (.complex .f64 c d)).run Try.prog w = .ok (.complex .f64 (g1 w) (g2 w)) (w.drewN k) := by
  obtain ⟨g1, k1, h1⟩ := arith_any .add (Or.inl rfl) a c
  obtain ⟨g2, k2, h2⟩ := arith_any .add (Or.inl rfl) b d
  refine ⟨g1, fun w => g2 (w.drewN k1), k1 + k2, fun w => ?_⟩
  simp [binOp, Op.complexOp, Op.Complex.arith, h1, h2]

end Go.Proofs.Ytpojamikfcmnoaa.X
-- by xprint.py, a program of this session, over the kit's print.py
namespace Go.Proofs.Ytpojamikfcmnoaa.X
open Go.RowKit Go.Proofs.YtpojamikfcmnoaaW.PrintWords Go.Proofs.YtpojamikfcmnoaaW.PrintLast Go.Proofs.YtpojamikfcmnoaaW.PrintMore
attribute [local go_sem] max2_int min2_int max_two min_two max_three min_three max_four min_four   -- for this text's walks alone
set_option linter.unusedVariables false
set_option linter.unusedSimpArgs false

theorem toInt_part (x : Nat) (s : Bool) (k : Nat) (h : IntF x s k) : (Ieee.double.read x).toInt .zero = some (sgn s k) := by
  obtain ⟨m, p, h1, h2, h3⟩ := h
  rw [dl] at h2 h3
  rw [Int.sub_neg] at h3
  rw [h1]
  show some (Ieee.signed s (Ieee.Toward.zero.cut s (m <<< p.toNat) (-p).toNat) 0) = _
  rw [signed_sgn, cut_zero, Nat.shiftLeft_eq, Nat.pow_zero, Nat.mul_one]
  congr 2
  by_cases hp : 0 ≤ p
  · rw [show (-p).toNat = 0 by omega, Nat.pow_zero, Nat.div_one]
    have hA := Ubig_pos
    have e0 : ∀ E U : Nat, E = 1074 → U = 2 ^ E → 2 ^ p.toNat * U = 2 ^ (p + 1074).toNat := fun E U hE hU => by rw [hU, ← Nat.pow_add, show p.toNat + E = (p + 1074).toNat by omega]
    have e9 : m * 2 ^ p.toNat * Ubig = k * Ubig := by rw [Nat.mul_assoc, e0 1074 Ubig rfl Ubig_eq, h3]
    exact Nat.eq_of_mul_eq_mul_right hA e9
  · have hA := Nat.two_pow_pos (p + 1074).toNat
    have hU : Ubig = 2 ^ (-p).toNat * 2 ^ (p + 1074).toNat := by
      have : ∀ E, E = 1074 → Ubig = 2 ^ E := fun E hE => by rw [hE]; exact Ubig_eq
      rw [← Nat.pow_add]
      exact this _ (by omega)
    rw [show p.toNat = 0 by omega, Nat.pow_zero, Nat.mul_one]
    have e : m = k * 2 ^ (-p).toNat := by
      refine Nat.eq_of_mul_eq_mul_right hA ?_
      rw [h3, hU, Nat.mul_assoc]
    rw [e, Nat.mul_div_cancel _ (Nat.two_pow_pos _)]
theorem float_int_any (x : Nat) : ∃ (g : World → Int) (k : Nat), (∀ w, (convert 47 2 (.float .f64 x)).run Try.prog w = .ok (.int .i64 (g w)) (w.drewN k)) ∧ ∀ s j, IntF x s j → j ≤ 1048576 → ∀ w, g w = sgn s j := by
  have hs : Try.prog.underlying 47 = some (.float .f64) := Try.underlying47
  have hd : Try.prog.underlying 2 = some (.int .i64) := Try.underlying2
  cases hv : floatToIntVal .f64 x .i64 with
  | some n =>
    refine ⟨fun _ => n, 0, fun w => run_convert_float_int w _ _ .f64 .i64 x n (by rw [hs]; rfl) hd hv, fun s j hi hj _ => ?_⟩
    have ht := toInt_part x s j hi
    unfold floatToIntVal at hv
    rw [show (FloatKind.f64.decode x).toInt .zero = some (sgn s j) from ht] at hv
    dsimp only at hv
    split at hv
    · exact (Option.some.inj hv).symm
    · cases hv
  | none =>
    refine ⟨fun w => IntKind.i64.wrap ((Question.floatToInt .f64 x .i64).cut (w.tape w.drawn (Question.floatToInt .f64 x .i64)) : Nat), 1, fun w => ?_, fun s j hi hj _ => ?_⟩
    · unfold floatToIntVal at hv
      split at hv
      · rename_i m he
        split at hv
        · cases hv
        · rename_i hb
          simp only [convert, run_underlying hs, run_underlying hd, Conv.floatToInt, he, if_neg hb, Sem.run_bind, Result.andThen_ok]
          simp [Question.forced, World.drewN]
      · rename_i he
        simp [convert, run_underlying hs, run_underlying hd, Conv.floatToInt, he, Question.forced, World.drewN]
    · exfalso
      have ht := toInt_part x s j hi
      unfold floatToIntVal at hv
      rw [show (FloatKind.f64.decode x).toInt .zero = some (sgn s j) from ht] at hv
      dsimp only at hv
      have e1 : IntKind.i64.min = -9223372036854775808 := by decide
      have e2 : IntKind.i64.max = 9223372036854775807 := by decide
      rw [if_pos (by rw [e1, e2]; unfold sgn; split <;> omega)] at hv
      cases hv
theorem gauss_clean.any (re im : Nat) (w : World) :
    Calls Try.prog 82 #[.complex .f64 re im] w fun e w' => (∃ cr ci, e = .returned (.complex .f64 cr ci)) ∧ Below w.heap.size w w' := by
  obtain ⟨g1, k1, r1⟩ := float_add_any re 0
  obtain ⟨g2, k2, r2⟩ := float_add_any im 0
  go_enter Try.func82, Try.ntmps82
  go_wp2
  go_ret
  exact ⟨⟨_, _, rfl⟩, pw_below_drewN (Below.refl _ _) _⟩
set_option maxHeartbeats 8000000 in
theorem gauss_done.no (re im : Nat) (a : Addr) (c : Nat) (l : List (Nat × Nat)) (w : World) (hm : mayE l = false) (hc : l.length ≤ c) (hb : l.length ≤ 100) (hr : ∀ i, i < l.length → w.cell? (a.add i) = some (.complex .f64 (l.getD i (0, 0)).1 (l.getD i (0, 0)).2)) :
    Calls Try.prog 54 #[.complex .f64 re im, .slice (some a) l.length c] w fun e w' => e = .returned (.tuple #[.complex .f64 0 0, .int .i64 17]) ∧ Below w.heap.size w w' := by
  have HR := Aside0.mk hr
  have HB := Aside0.mk hb
  have HC := Aside0.mk hc
  have HM := Aside0.mk hm
  clear hr hb hc hm
  go_enter Try.func54, Try.ntmps54
  go_wp2_with (first | (fail))
  refine (gauss_clean.any re im _).mono ?_
  rintro e w8 ⟨⟨cr, ci, rfl⟩, hb⟩
  have n0_ : Aside0 (∀ i, i < l.length → w8.cell? (a.add i) = some (.complex .f64 (l.getD i (0, 0)).1 (l.getD i (0, 0)).2)) := ⟨fun i hi => (hb.cell (World.block_lt_of_cell? w _ (HR.out i hi))).trans (HR.out i hi)⟩
  have HBel := Aside0.mk hb
  clear HR hb
  go_wp2_with (first | (fail))
  refine (gauss_may.calls a c l _ HC.out HB.out n0_.out).mono ?_
  rintro e w9 ⟨rfl, rfl⟩
  rw [HM.out]
  go_wp2_with (first | (fail))
  go_ret2
  exact ⟨rfl, HBel.out⟩
theorem gauss_done_two (re im a b c d : Nat) (g : Nat) (W : World) (hm : mayE [(a, b), (c, d)] = false) (hg : g = W.heap.size) :
    Calls Try.prog 54 #[.complex .f64 re im, .slice (some ⟨g, 0, none⟩) 2 2] (W.alloc (Obj.cells #[.complex .f64 a b, .complex .f64 c d] 26)) fun e w' => e = .returned (.tuple #[.complex .f64 0 0, .int .i64 17]) ∧ Below (W.alloc (Obj.cells #[.complex .f64 a b, .complex .f64 c d] 26)).heap.size (W.alloc (Obj.cells #[.complex .f64 a b, .complex .f64 c d] 26)) w' := by
  subst hg
  exact gauss_done.no re im ⟨W.heap.size, 0, none⟩ 2 [(a, b), (c, d)] _ hm (Nat.le_refl _) (by simp) (cells_two W a b c d 26)
theorem gauss_Add.no (a b c d : Nat) (hm : mayE [(a, b), (c, d)] = false) (w : World) :
    Calls Try.prog 15 #[.complex .f64 a b, .complex .f64 c d] w fun e w' => e = .returned (.tuple #[.complex .f64 0 0, .int .i64 17]) ∧ Below w.heap.size w w' := by
  obtain ⟨g1, g2, k, r1⟩ := complex_add_any a b c d
  have HM := Aside0.mk hm
  clear hm
  go_enter Try.func15, Try.ntmps15
  go_wp2_with (first | (fail))
  refine (gauss_done_two _ _ _ _ _ _ _ _ HM.out rfl).mono ?_
  rintro e w9 ⟨rfl, hb⟩
  have HB := Aside0.mk (below_step (below_alloc (pw_below_drewN (Below.refl w.heap.size w) _) _) hb)
  clear hb
  go_wp2_with (first | (fail))
  go_ret2
  exact ⟨rfl, HB.out⟩

end Go.Proofs.Ytpojamikfcmnoaa.X
-- by xprint.py, a program of this session, over the kit's print.py
namespace Go.Proofs.Ytpojamikfcmnoaa.X
open Go.RowKit Go.Proofs.YtpojamikfcmnoaaW.PrintWords Go.Proofs.YtpojamikfcmnoaaW.PrintLast Go.Proofs.YtpojamikfcmnoaaW.PrintMore
attribute [local go_sem] max2_int min2_int max_two min_two max_three min_three max_four min_four   -- for this text's walks alone
set_option linter.unusedVariables false
set_option linter.unusedSimpArgs false

def agatelaw06_GaussBack.f (a c : Int) (x : Nat) (b : ByteArray) : Option Bool := if x < 18446744073709551616 then some true else none
theorem tmod_small (a : Int) : -1048576 ≤ Int.tmod a 1048576 ∧ Int.tmod a 1048576 ≤ 1048576 := by
  have h : (Int.tmod a 1048576).natAbs = a.natAbs % 1048576 := Int.natAbs_tmod a 1048576
  have := Nat.mod_lt a.natAbs (show 0 < 1048576 by decide)
  omega
theorem mayR_tmod (a c : Int) : mayR (Int.tmod a 1048576) (Int.tmod c 1048576) = true := by
  unfold mayR; rw [decide_eq_true (tmod_small a), decide_eq_true (tmod_small c)]; rfl
theorem readF_put (a b : Int) (h : mayR a b = true) : readF (laidV (floatOfInt .f32 a) ++ laidV (floatOfInt .f32 b)) = (floatOfInt .f64 a, floatOfInt .f64 b, 0) := by
  unfold readF; rw [readR_put a b h]
theorem may_x0 (x : Nat) (h : partE x = false) : mayE [(x, 0)] = false := by
  unfold mayE; rw [List.all_cons, h]; rfl
theorem may_0x (x : Nat) (h : partE x = false) : mayE [(0, x), (0, 0)] = false := by
  unfold mayE; rw [List.all_cons, h, Bool.and_false]; rfl
theorem back_orders (x : Nat) (s : Bool) (k : Nat) (h : IntF x s k) (hk : k ≤ 1048576) : (FloatKind.f64.format.order x (floatOfInt .f64 (sgn s k)) == some .eq) = true ∧ (FloatKind.f64.format.order x 13920626448202203136 == some .gt || FloatKind.f64.format.order x 13920626448202203136 == some .eq) = true ∧ (FloatKind.f64.format.order x 4697254411347427328 == some .lt || FloatKind.f64.format.order x 4697254411347427328 == some .eq) = true := by
  have hs : -1048576 ≤ sgn s k ∧ sgn s k ≤ 1048576 := by unfold sgn; split <;> omega
  have e1 : FloatKind.f64.format.order x (floatOfInt .f64 (sgn s k)) = _ := num_order h (F_int (sgn s k) (by omega) (by omega))
  have e2 : FloatKind.f64.format.order x 13920626448202203136 = _ := num_order h cN
  have e3 : FloatKind.f64.format.order x 4697254411347427328 = _ := num_order h cP
  have hU := Ubig_pos
  have hle := (sgn_le s (k * Ubig) (1048576 * Ubig)).2 (Nat.mul_le_mul_right _ hk)
  rw [e1, e2, e3, cmp_eq, cmp_gt, cmp_lt]
  refine ⟨decide_eq_true ?_, decide_eq_true hle.1, decide_eq_true hle.2⟩
  rw [sgn_mul, sgn_mul, sgn_int]
set_option maxHeartbeats 8000000 in
set_option maxRecDepth 100000 in
theorem agatelaw06_GaussBack.calls0 (a c : Int) (x : Nat) (b : ByteArray) (hx : x < 18446744073709551616) (w : World) :
    Calls Try.prog 6 #[.int .i64 a, .int .i64 c, .float .f64 x, .string b] w fun e w' => e = .returned (.bool true) ∧ Below w.heap.size w w' := by
  have HB := Aside0.mk (Below.refl w.heap.size w)
  have Hm := Aside0.mk (mayR_tmod a c)
  have Hx := Aside0.mk hx
  clear hx
  by_cases hl : b.size > 100
  · have hlb : decide (100 < (b.size : Int)) = true := decide_eq_true (by omega)
    go_enter Try.func6, Try.ntmps6
    go_wp2_with (first | (fail))
    refine (agatelaw06_Awake.calls true _ rfl).mono ?_
    rintro e wE ⟨rfl, hb⟩
    have HB2 := Aside0.mk (below_step HB.out hb)
    clear HB hb
    have HB := HB2
    go_wp2_with (first | (fail))
    go_ret
    exact ⟨rfl, HB.out⟩
  · have hlb : decide (100 < (b.size : Int)) = false := decide_eq_false (by omega)
    clear hl
    have o1 := order_F (Int.tmod a 1048576) (by have := tmod_small a; omega) (by have := tmod_small a; omega)
    have o2 := order_F (Int.tmod c 1048576) (by have := tmod_small c; omega) (by have := tmod_small c; omega)
    go_enter Try.func6, Try.ntmps6
    go_wp2_with (first | (fail))
    refine (reck_Put.calls _ _ Hm.out _).mono ?_
    rintro e w1 ⟨rfl, hb⟩
    have m0_ := Aside0.mk (below_step (HB.out) hb)
    clear HB hb
    have HB := m0_
    clear m0_
    have Hrf := Aside0.mk (readF_put _ _ Hm.out)
    generalize hs : laidV (floatOfInt .f32 (Int.tmod a 1048576)) ++ laidV (floatOfInt .f32 (Int.tmod c 1048576)) = s at *
    clear hs
    go_wp2_with (first | (fail))
    refine (gauss_Read.calls s _).mono ?_
    rintro e w2 ⟨rfl, hb⟩
    have m0_ := Aside0.mk (below_step (HB.out) hb)
    clear HB hb
    have HB := m0_
    clear m0_
    rw [Hrf.out]
    go_wp2_with (first | (fail))
    refine (gauss_Read.calls b _).mono ?_
    rintro e w3 ⟨rfl, hb⟩
    have m0_ := Aside0.mk (below_step (HB.out) hb)
    clear HB hb
    have HB := m0_
    clear m0_
    have Hpr := Aside0.mk (put_readR b)
    rw [show readF b = (floatOfInt .f64 (readR b).1, floatOfInt .f64 (readR b).2.1, (readR b).2.2) from rfl]
    generalize readR b = q at Hpr ⊢
    obtain ⟨q1, q2, q3⟩ := q
    dsimp only at Hpr ⊢
    by_cases hq : q3 = 0
    · subst hq
      have HP := Aside0.mk (Hpr.out rfl)
      clear Hpr
      go_wp2_with (first | (fail))
      refine (reck_Put.calls q1 q2 HP.out.1 _).mono ?_
      rintro e w4 ⟨rfl, hb⟩
      have m0_ := Aside0.mk (below_step (HB.out) hb)
      clear HB hb
      have HB := m0_
      clear m0_
      rw [HP.out.2]
      cases hp : partE x with
      | true =>
        obtain ⟨s2, k2, hi, hk, -⟩ := (part_iff Hx.out).1 hp
        obtain ⟨gi, ki, r0, hg⟩ := float_int_any x
        have r1 : ∀ w, (convert 47 2 (.float .f64 x)).run Try.prog w = .ok (.int .i64 (sgn s2 k2)) (w.drewN ki) := fun w => by rw [r0 w, hg s2 k2 hi hk w]
        obtain ⟨o3, o4, o5⟩ := back_orders x s2 k2 hi hk
        clear r0 hg hi hk hp gi
        go_wp2_with (first | (fail))
        have n0_ := Aside0.mk (pw_below_drewN HB.out ki)
        clear HB
        have HB := n0_
        clear n0_
        refine (agatelaw06_Awake.calls true _ rfl).mono ?_
        rintro e wE ⟨rfl, hb⟩
        have HB2 := Aside0.mk (below_step HB.out hb)
        clear HB hb
        have HB := HB2
        go_wp2_with (first | (fail))
        go_ret
        exact ⟨rfl, HB.out⟩
      | false =>
        obtain ⟨gi, ki, r1, -⟩ := float_int_any x
        have Hp := Aside0.mk hp
        clear hp
        go_wp2_with (first | (fail))
        · have n0_ := Aside0.mk (pw_below_drewN HB.out ki)
          clear HB
          have HB := n0_
          clear n0_
          refine (agatelaw06_Awake.calls true _ rfl).mono ?_
          rintro e wE ⟨rfl, hb⟩
          have HB2 := Aside0.mk (below_step HB.out hb)
          clear HB hb
          have HB := HB2
          go_wp2_with (first | (fail))
          go_ret
          exact ⟨rfl, HB.out⟩
        · have n0_ := Aside0.mk (pw_below_drewN HB.out ki)
          clear HB
          have HB := n0_
          clear n0_
          refine (gauss_Put.refused x 0 (may_x0 x Hp.out) _).mono ?_
          rintro e v1 ⟨rfl, hb⟩
          have m0_ := Aside0.mk (below_step (HB.out) hb)
          clear HB hb
          have HB := m0_
          clear m0_
          go_wp2_with (first | (fail))
          refine (gauss_Add.no 0 x 0 0 (may_0x x Hp.out) _).mono ?_
          rintro e v2 ⟨rfl, hb⟩
          have m0_ := Aside0.mk (below_step (HB.out) hb)
          clear HB hb
          have HB := m0_
          clear m0_
          go_wp2_with (first | (fail))
          refine (agatelaw06_Awake.calls true _ rfl).mono ?_
          rintro e wE ⟨rfl, hb⟩
          have HB2 := Aside0.mk (below_step HB.out hb)
          clear HB hb
          have HB := HB2
          go_wp2_with (first | (fail))
          go_ret
          exact ⟨rfl, HB.out⟩
        · have n0_ := Aside0.mk (pw_below_drewN HB.out ki)
          clear HB
          have HB := n0_
          clear n0_
          refine (gauss_Put.refused x 0 (may_x0 x Hp.out) _).mono ?_
          rintro e v1 ⟨rfl, hb⟩
          have m0_ := Aside0.mk (below_step (HB.out) hb)
          clear HB hb
          have HB := m0_
          clear m0_
          go_wp2_with (first | (fail))
          refine (gauss_Add.no 0 x 0 0 (may_0x x Hp.out) _).mono ?_
          rintro e v2 ⟨rfl, hb⟩
          have m0_ := Aside0.mk (below_step (HB.out) hb)
          clear HB hb
          have HB := m0_
          clear m0_
          go_wp2_with (first | (fail))
          refine (agatelaw06_Awake.calls true _ rfl).mono ?_
          rintro e wE ⟨rfl, hb⟩
          have HB2 := Aside0.mk (below_step HB.out hb)
          clear HB hb
          have HB := HB2
          go_wp2_with (first | (fail))
          go_ret
          exact ⟨rfl, HB.out⟩
        · have n0_ := Aside0.mk (pw_below_drewN HB.out ki)
          clear HB
          have HB := n0_
          clear n0_
          refine (gauss_Put.refused x 0 (may_x0 x Hp.out) _).mono ?_
          rintro e v1 ⟨rfl, hb⟩
          have m0_ := Aside0.mk (below_step (HB.out) hb)
          clear HB hb
          have HB := m0_
          clear m0_
          go_wp2_with (first | (fail))
          refine (gauss_Add.no 0 x 0 0 (may_0x x Hp.out) _).mono ?_
          rintro e v2 ⟨rfl, hb⟩
          have m0_ := Aside0.mk (below_step (HB.out) hb)
          clear HB hb
          have HB := m0_
          clear m0_
          go_wp2_with (first | (fail))
          refine (agatelaw06_Awake.calls true _ rfl).mono ?_
          rintro e wE ⟨rfl, hb⟩
          have HB2 := Aside0.mk (below_step HB.out hb)
          clear HB hb
          have HB := HB2
          go_wp2_with (first | (fail))
          go_ret
          exact ⟨rfl, HB.out⟩
    · have hq1 : (q3 == 0) = false := beq_eq_false_iff_ne.2 hq
      have hq2 : (q3 != 0) = true := bne_iff_ne.2 hq
      clear Hpr hq
      cases hp : partE x with
      | true =>
        obtain ⟨s2, k2, hi, hk, -⟩ := (part_iff Hx.out).1 hp
        obtain ⟨gi, ki, r0, hg⟩ := float_int_any x
        have r1 : ∀ w, (convert 47 2 (.float .f64 x)).run Try.prog w = .ok (.int .i64 (sgn s2 k2)) (w.drewN ki) := fun w => by rw [r0 w, hg s2 k2 hi hk w]
        obtain ⟨o3, o4, o5⟩ := back_orders x s2 k2 hi hk
        clear r0 hg hi hk hp gi
        go_wp2_with (first | (fail))
        have n0_ := Aside0.mk (pw_below_drewN HB.out ki)
        clear HB
        have HB := n0_
        clear n0_
        refine (agatelaw06_Awake.calls true _ rfl).mono ?_
        rintro e wE ⟨rfl, hb⟩
        have HB2 := Aside0.mk (below_step HB.out hb)
        clear HB hb
        have HB := HB2
        go_wp2_with (first | (fail))
        go_ret
        exact ⟨rfl, HB.out⟩
      | false =>
        obtain ⟨gi, ki, r1, -⟩ := float_int_any x
        have Hp := Aside0.mk hp
        clear hp
        go_wp2_with (first | (fail))
        · have n0_ := Aside0.mk (pw_below_drewN HB.out ki)
          clear HB
          have HB := n0_
          clear n0_
          refine (agatelaw06_Awake.calls true _ rfl).mono ?_
          rintro e wE ⟨rfl, hb⟩
          have HB2 := Aside0.mk (below_step HB.out hb)
          clear HB hb
          have HB := HB2
          go_wp2_with (first | (fail))
          go_ret
          exact ⟨rfl, HB.out⟩
        · have n0_ := Aside0.mk (pw_below_drewN HB.out ki)
          clear HB
          have HB := n0_
          clear n0_
          refine (gauss_Put.refused x 0 (may_x0 x Hp.out) _).mono ?_
          rintro e v1 ⟨rfl, hb⟩
          have m0_ := Aside0.mk (below_step (HB.out) hb)
          clear HB hb
          have HB := m0_
          clear m0_
          go_wp2_with (first | (fail))
          refine (gauss_Add.no 0 x 0 0 (may_0x x Hp.out) _).mono ?_
          rintro e v2 ⟨rfl, hb⟩
          have m0_ := Aside0.mk (below_step (HB.out) hb)
          clear HB hb
          have HB := m0_
          clear m0_
          go_wp2_with (first | (fail))
          refine (agatelaw06_Awake.calls true _ rfl).mono ?_
          rintro e wE ⟨rfl, hb⟩
          have HB2 := Aside0.mk (below_step HB.out hb)
          clear HB hb
          have HB := HB2
          go_wp2_with (first | (fail))
          go_ret
          exact ⟨rfl, HB.out⟩
        · have n0_ := Aside0.mk (pw_below_drewN HB.out ki)
          clear HB
          have HB := n0_
          clear n0_
          refine (gauss_Put.refused x 0 (may_x0 x Hp.out) _).mono ?_
          rintro e v1 ⟨rfl, hb⟩
          have m0_ := Aside0.mk (below_step (HB.out) hb)
          clear HB hb
          have HB := m0_
          clear m0_
          go_wp2_with (first | (fail))
          refine (gauss_Add.no 0 x 0 0 (may_0x x Hp.out) _).mono ?_
          rintro e v2 ⟨rfl, hb⟩
          have m0_ := Aside0.mk (below_step (HB.out) hb)
          clear HB hb
          have HB := m0_
          clear m0_
          go_wp2_with (first | (fail))
          refine (agatelaw06_Awake.calls true _ rfl).mono ?_
          rintro e wE ⟨rfl, hb⟩
          have HB2 := Aside0.mk (below_step HB.out hb)
          clear HB hb
          have HB := HB2
          go_wp2_with (first | (fail))
          go_ret
          exact ⟨rfl, HB.out⟩
        · have n0_ := Aside0.mk (pw_below_drewN HB.out ki)
          clear HB
          have HB := n0_
          clear n0_
          refine (gauss_Put.refused x 0 (may_x0 x Hp.out) _).mono ?_
          rintro e v1 ⟨rfl, hb⟩
          have m0_ := Aside0.mk (below_step (HB.out) hb)
          clear HB hb
          have HB := m0_
          clear m0_
          go_wp2_with (first | (fail))
          refine (gauss_Add.no 0 x 0 0 (may_0x x Hp.out) _).mono ?_
          rintro e v2 ⟨rfl, hb⟩
          have m0_ := Aside0.mk (below_step (HB.out) hb)
          clear HB hb
          have HB := m0_
          clear m0_
          go_wp2_with (first | (fail))
          refine (agatelaw06_Awake.calls true _ rfl).mono ?_
          rintro e wE ⟨rfl, hb⟩
          have HB2 := Aside0.mk (below_step HB.out hb)
          clear HB hb
          have HB := HB2
          go_wp2_with (first | (fail))
          go_ret
          exact ⟨rfl, HB.out⟩
theorem agatelaw06_GaussBack.calls (a c : Int) (x : Nat) (b : ByteArray) (r : Bool) (w : World) (h : agatelaw06_GaussBack.f a c x b = some r) :
    Calls Try.prog 6 #[.int .i64 a, .int .i64 c, .float .f64 x, .string b] w fun e w' => e = .returned (.bool r) ∧ Below w.heap.size w w' := by
  unfold agatelaw06_GaussBack.f at h
  split at h
  · rename_i hx
    obtain rfl := Option.some.inj h
    exact agatelaw06_GaussBack.calls0 a c x b hx w
  · cases h

def agatelaw06_GaussBack.Pure : Prop := ∀ (x0 : Int) (x1 : Int) (x2 : Nat) (x3 : ByteArray), (fun a => (Lit.int .i64 a).wf = true) x0 → (fun a => (Lit.int .i64 a).wf = true) x1 → (fun a => a < 18446744073709551616) x2 → (fun a => a.size ≤ 140737488351232) x3 → agatelaw06_GaussBack.f x0 x1 x2 x3 = some true

end Go.Proofs.Ytpojamikfcmnoaa.X
