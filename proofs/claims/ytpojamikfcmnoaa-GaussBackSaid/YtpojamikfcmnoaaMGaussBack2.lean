import Derived.Test.YtpojamikfcmnoaaMGaussBack0
import Derived.Test.YtpojamikfcmnoaaMGaussBack1
import Derived.WalkLawsBesides
-- by xprint.py, a program of this session, over the kit's print.py
namespace Go.Proofs.Ytpojamikfcmnoaa.X
open Go.RowKit Go.Proofs.YtpojamikfcmnoaaW.PrintWords Go.Proofs.YtpojamikfcmnoaaW.PrintLast Go.Proofs.YtpojamikfcmnoaaW.PrintMore
attribute [local go_sem] max2_int min2_int max_two min_two max_three min_three max_four min_four   -- for this text's walks alone
set_option linter.unusedVariables false
set_option linter.unusedSimpArgs false

def agatelaw06_Awake.f : Option Bool := some true
theorem awake06_mul : cMulBits 4607182418800017408 4611686018427387904 4613937818241073152 4616189618054758400 = some (13840687554816376832, 4621819117588971520) := by decide +kernel
theorem awake06_re : floatBits .add .f64 13840687554816376832 0 = some 13840687554816376832 := by decide +kernel
theorem awake06_im : floatBits .add .f64 4621819117588971520 0 = some 4621819117588971520 := by decide +kernel
theorem awake06_done : doneS 13840687554816376832 4621819117588971520 [(4607182418800017408, 4611686018427387904), (4613937818241073152, 4616189618054758400)] = (13840687554816376832, 4621819117588971520, 0) := by decide +kernel
theorem awake06_eq1 : (FloatKind.f64.format.order 13840687554816376832 13840687554816376832 == some .eq) = true := by decide +kernel
theorem awake06_eq2 : (FloatKind.f64.format.order 4621819117588971520 4621819117588971520 == some .eq) = true := by decide +kernel
theorem agatelaw06_Awake.calls (r : Bool) (w : World) (h : agatelaw06_Awake.f = some r) :
    Calls Try.prog 12 #[] w fun e w' => e = .returned (.bool r) ∧ Below w.heap.size w w' := by
  obtain rfl := Option.some.inj h
  have q1 := awake06_eq1
  have q2 := awake06_eq2
  go_enter Try.func12, Try.ntmps12
  go_wp2_with (first | (fail))
  refine (gauss_Mul.calls _ _ _ _ _ _ _ _ awake06_mul awake06_re awake06_im _).mono ?_
  rintro e w9 ⟨rfl, hb⟩
  rw [awake06_done]
  have HB := Aside0.mk hb
  clear hb
  go_wp2_with (first | (fail))
  go_ret
  exact ⟨rfl, HB.out⟩

end Go.Proofs.Ytpojamikfcmnoaa.X
-- by xprint.py, a program of this session, over the kit's print.py
namespace Go.Proofs.Ytpojamikfcmnoaa.X
open Go.RowKit Go.Proofs.YtpojamikfcmnoaaW.PrintWords Go.Proofs.YtpojamikfcmnoaaW.PrintLast Go.Proofs.YtpojamikfcmnoaaW.PrintMore
attribute [local go_sem] max2_int min2_int max_two min_two max_three min_three max_four min_four   -- for this text's walks alone
set_option linter.unusedVariables false
set_option linter.unusedSimpArgs false

theorem cut_le (f : Ieee.Format) (s : Bool) (m : Nat) (p last : Int) (hm : m ≠ 0) (hl : p + (m.log2 : Int) - f.fractionBits ≤ last) : Ieee.Toward.even.cut s (m <<< (p - last).toNat) (last - p).toNat ≤ 2 * f.binade := by
  have hL := ((Nat.log2_eq_iff hm).1 rfl).2
  have hB : 2 * f.binade = 2 ^ (f.fractionBits + 1) := by rw [Nat.pow_succ, Nat.mul_comm]; rfl
  rw [hB, Nat.shiftLeft_eq]
  by_cases h : last ≤ p
  · rw [show (last - p).toNat = 0 by omega, cut_nought]
    have h1 : m * 2 ^ (p - last).toNat < 2 ^ (m.log2 + 1) * 2 ^ (p - last).toNat := (Nat.mul_lt_mul_right (Nat.two_pow_pos _)).2 hL
    rw [← Nat.pow_add] at h1
    exact Nat.le_of_lt (Nat.lt_of_lt_of_le h1 (Nat.pow_le_pow_right (by decide) (by omega)))
  · rw [show (p - last).toNat = 0 by omega, Nat.pow_zero, Nat.mul_one]
    unfold Ieee.Toward.cut
    dsimp only
    have hb : ∀ b : Bool, b.toNat ≤ 1 := fun b => by cases b <;> decide
    refine Nat.le_trans (Nat.add_le_add_left (hb _) _) ?_
    rw [Nat.one_shiftLeft]
    by_cases hd : (last - p).toNat ≤ m.log2 + 2
    · rw [Nat.min_eq_left hd]
      have h2 : m < 2 ^ (last - p).toNat * 2 ^ (f.fractionBits + 1) := by
        rw [← Nat.pow_add]
        exact Nat.lt_of_lt_of_le hL (Nat.pow_le_pow_right (by decide) (by omega))
      exact Nat.div_lt_of_lt_mul h2
    · rw [Nat.min_eq_right (by omega)]
      have h2 : m < 2 ^ (m.log2 + 2) := Nat.lt_of_lt_of_le hL (Nat.pow_le_pow_right (by decide) (by omega))
      rw [Nat.div_eq_of_lt h2]
      exact Nat.two_pow_pos _
theorem read_of_rung (f : Ieee.Format) (s : Bool) (r : Nat) (h : r ≤ f.infRung) : (∃ k q, f.read (f.word s r) = .number s k q) ∨ (r = f.infRung ∧ f.read (f.word s r) = .infinity s) := by
  have hsw := f.infRung_lt
  obtain ⟨r1, r2⟩ := read_word f s r (by omega)
  unfold Ieee.Format.read
  rw [r1, r2]
  by_cases h1 : r < f.binade
  · exact Or.inl ⟨r, f.leastPlace, if_pos h1⟩
  · by_cases h2 : r < f.infRung
    · refine Or.inl ⟨f.binade + r % f.binade, f.leastPlace + (r / f.binade - 1 : Nat), ?_⟩
      show (if r < f.binade then _ else if r < f.infRung then _ else _) = _
      rw [if_neg h1, if_pos h2]
    · refine Or.inr ⟨by omega, ?_⟩
      show (if r < f.binade then _ else if r < f.infRung then _ else if r = f.infRung then _ else _) = _
      rw [if_neg h1, if_neg h2, if_pos (by omega)]
theorem read_nearest (f : Ieee.Format) (s : Bool) (m : Nat) (p : Int) : (∃ k q, f.read (f.nearest s m p) = .number s k q) ∨ f.read (f.nearest s m p) = .infinity s := by
  unfold Ieee.Format.nearest
  by_cases hm : m = 0
  · rw [if_pos hm]
    rcases read_of_rung f s 0 (Nat.zero_le _) with h | ⟨_, h⟩
    · exact Or.inl h
    · exact Or.inr h
  · rw [if_neg hm]
    rcases read_of_rung f s _ (Nat.min_le_right _ f.infRung) with h | ⟨_, h⟩
    · exact Or.inl h
    · exact Or.inr h
theorem read_nearest_fin (f : Ieee.Format) (s : Bool) (m : Nat) (p : Int) (ht : (max (p + (m.log2 : Int) - f.fractionBits) f.leastPlace - f.leastPlace).toNat + 4 ≤ 2 ^ f.exponentBits) : ∃ k q, f.read (f.nearest s m p) = .number s k q := by
  unfold Ieee.Format.nearest
  by_cases hm : m = 0
  · rw [if_pos hm]
    obtain ⟨k, q, h, _⟩ := num_zero f s
    exact ⟨k, q, h⟩
  · rw [if_neg hm]
    dsimp only
    generalize hL : max (p + (m.log2 : Int) - f.fractionBits) f.leastPlace = last at ht
    have hc := cut_le f s m p last hm (by omega)
    generalize Ieee.Toward.even.cut s (m <<< (p - last).toNat) (last - p).toNat = K at hc
    have hB : 0 < f.binade := Nat.two_pow_pos _
    have hr : (last - f.leastPlace).toNat * f.binade + K < f.infRung := by
      unfold Ieee.Format.infRung
      have h1 : ((last - f.leastPlace).toNat + 3) * f.binade ≤ (2 ^ f.exponentBits - 1) * f.binade := Nat.mul_le_mul_right _ (by omega)
      rw [Nat.add_mul] at h1; omega
    rw [Nat.min_eq_left (Nat.le_of_lt hr)]
    rcases read_of_rung f s _ (Nat.le_of_lt hr) with h | ⟨h, _⟩
    · exact h
    · omega
theorem add_zero_some {x : Nat} (h : (∃ s k q, Ieee.double.read x = .number s k q) ∨ ∃ s, Ieee.double.read x = .infinity s) : ∃ r, floatBits .add .f64 x 0 = some r := by
  show ∃ r, Ieee.double.add x 0 = some r
  obtain ⟨m0, p0, h0, _, _⟩ := cZ
  unfold Ieee.Format.add
  rw [h0]
  rcases h with ⟨s, k, q, h⟩ | ⟨s, h⟩
  · rw [h]; exact ⟨_, rfl⟩
  · rw [h]; exact ⟨_, rfl⟩
/-! whole numbers -/
theorem F_eq (n : Int) : floatOfInt .f64 n = dI (decide (n < 0)) n.natAbs := rfl
theorem sgn_int (n : Int) : sgn (decide (n < 0)) n.natAbs = n := by
  unfold sgn
  by_cases h : n < 0
  · rw [if_pos (decide_eq_true h)]; omega
  · rw [if_neg (by simp; omega)]; omega
theorem F_int (n : Int) (h0 : -9007199254740992 < n) (h1 : n < 9007199254740992) : IntF (floatOfInt .f64 n) (decide (n < 0)) n.natAbs := dI_int _ _ (by omega)
theorem F_lt (n : Int) : floatOfInt .f64 n < 18446744073709551616 := Ieee.double.nearest_lt _ _ _
theorem part_F (n : Int) (h0 : -9007199254740992 < n) (h1 : n < 9007199254740992) : partE (floatOfInt .f64 n) = decide (-1048576 ≤ n ∧ n ≤ 1048576) := by
  rw [part_int (F_lt n) (F_int n h0 h1)]
  have e : (decide (n.natAbs ≠ 0) || !decide (n < 0)) = true := by
    by_cases h : n < 0
    · rw [decide_eq_true (show n.natAbs ≠ 0 by omega)]; rfl
    · rw [decide_eq_false h]; simp
  rw [e, Bool.and_true, decide_eq_decide]
  omega
theorem clean_int {x : Nat} {s : Bool} {k : Nat} (h : IntF x s k) : floatBits .add .f64 x 0 = some (floatOfInt .f64 (sgn s k)) := by
  show Ieee.double.add x 0 = _
  rw [add_int h cZ, F_eq, show sgn false 0 = 0 from rfl, Int.add_zero]
  congr 2
  unfold sumSign
  rw [show sgn false 0 = 0 from rfl, Int.add_zero]
  by_cases g : sgn s k = 0
  · rw [if_pos g, g]; simp
  · rw [if_neg g]
theorem sgn_sumSign (s t : Bool) (a b : Nat) : sgn (sumSign s a t b) (sgn s a + sgn t b).natAbs = sgn s a + sgn t b := by
  unfold sumSign
  by_cases g : sgn s a + sgn t b = 0
  · rw [if_pos g, g]; unfold sgn; split <;> rfl
  · rw [if_neg g]; exact sgn_int _
theorem add_F (a b : Int) (ha : -4503599627370496 < a ∧ a < 4503599627370496) (hb : -4503599627370496 < b ∧ b < 4503599627370496) : ∃ r, floatBits .add .f64 (floatOfInt .f64 a) (floatOfInt .f64 b) = some r ∧ floatBits .add .f64 r 0 = some (floatOfInt .f64 (a + b)) := by
  have h := add_int (F_int a (by omega) (by omega)) (F_int b (by omega) (by omega))
  refine ⟨_, h, ?_⟩
  have e := sgn_sumSign (decide (a < 0)) (decide (b < 0)) a.natAbs b.natAbs
  rw [sgn_int, sgn_int] at e
  rw [sgn_int, sgn_int]
  rw [clean_int (dI_int _ _ (by omega)), e]
theorem sub_F (a b : Int) (ha : -4503599627370496 < a ∧ a < 4503599627370496) (hb : -4503599627370496 < b ∧ b < 4503599627370496) : ∃ r, floatBits .sub .f64 (floatOfInt .f64 a) (floatOfInt .f64 b) = some r ∧ floatBits .add .f64 r 0 = some (floatOfInt .f64 (a - b)) := by
  have h := sub_int (F_int a (by omega) (by omega)) (F_int b (by omega) (by omega))
  refine ⟨_, h, ?_⟩
  have e := sgn_sumSign (decide (a < 0)) (!decide (b < 0)) a.natAbs b.natAbs
  rw [sgn_not, sgn_int, sgn_int, ← Int.sub_eq_add_neg] at e
  rw [sgn_int, sgn_int]
  rw [clean_int (dI_int _ _ (by omega)), e]
theorem sgn_xor (s t : Bool) (a b : Nat) : sgn (s ^^ t) (a * b) = sgn s a * sgn t b := by
  unfold sgn
  cases s <;> cases t <;> simp [Int.neg_mul, Int.mul_neg]
theorem mul_F (a b : Int) (ha : -9007199254740992 < a ∧ a < 9007199254740992) (hb : -9007199254740992 < b ∧ b < 9007199254740992) : floatBits .mul .f64 (floatOfInt .f64 a) (floatOfInt .f64 b) = some (dI (decide (a < 0) ^^ decide (b < 0)) (a.natAbs * b.natAbs)) :=
  mul_int (F_int a ha.1 ha.2) (F_int b hb.1 hb.2)
theorem dI_fin (s : Bool) (k : Nat) (h : k < 2 ^ 200) : ∃ m q, Ieee.double.read (dI s k) = .number s m q := by
  refine read_nearest_fin Ieee.double s k 0 ?_
  have hl : k.log2 ≤ 200 := by
    by_cases h0 : k = 0
    · subst h0; decide
    · have := (Nat.log2_lt h0).2 h; omega
  rw [dl]
  show (max ((0 : Int) + (k.log2 : Int) - ((52 : Nat) : Int)) (-1074) - (-1074)).toNat + 4 ≤ 2 ^ 11
  omega
theorem sum_fin {x y : Nat} {s t : Bool} {m n : Nat} {p q : Int} (hx : Ieee.double.read x = .number s m p) (hy : Ieee.double.read y = .number t n q) : (∃ r, floatBits .add .f64 x y = some r ∧ ∃ c, floatBits .add .f64 r 0 = some c) ∧ (∃ r, floatBits .sub .f64 x y = some r ∧ ∃ c, floatBits .add .f64 r 0 = some c) := by
  constructor
  · obtain ⟨k, p', h, _⟩ := num_add (num_of_read hx) (num_of_read hy)
    refine ⟨_, h, add_zero_some ?_⟩
    rcases read_nearest Ieee.double (sumSign s (m * 2 ^ (p - Ieee.double.leastPlace).toNat) t (n * 2 ^ (q - Ieee.double.leastPlace).toNat)) k p' with ⟨a, b, h⟩ | h
    · exact Or.inl ⟨_, a, b, h⟩
    · exact Or.inr ⟨_, h⟩
  · obtain ⟨k, p', h, _⟩ := num_sub (num_of_read hx) (num_of_read hy)
    refine ⟨_, h, add_zero_some ?_⟩
    rcases read_nearest Ieee.double (sumSign s (m * 2 ^ (p - Ieee.double.leastPlace).toNat) (!t) (n * 2 ^ (q - Ieee.double.leastPlace).toNat)) k p' with ⟨a, b, h⟩ | h
    · exact Or.inl ⟨_, a, b, h⟩
    · exact Or.inr ⟨_, h⟩
theorem near_mul (a b : Nat) (ha : a < 2 ^ 52) (hb : b < 2 ^ 52) : a * b < 2 ^ 200 :=
  Nat.lt_of_lt_of_le (Nat.mul_lt_mul'' ha hb) (by decide)
/-- any near parts: the product has some words -/
theorem mul_any (a b c d : Int) (ha : a.natAbs < 2 ^ 52) (hb : b.natAbs < 2 ^ 52) (hc : c.natAbs < 2 ^ 52) (hd : d.natAbs < 2 ^ 52) : ∃ re im cr ci, cMulBits (floatOfInt .f64 a) (floatOfInt .f64 b) (floatOfInt .f64 c) (floatOfInt .f64 d) = some (re, im) ∧ floatBits .add .f64 re 0 = some cr ∧ floatBits .add .f64 im 0 = some ci := by
  have e : (2 : Nat) ^ 52 = 4503599627370496 := by decide
  have h1 := mul_F a c (by omega) (by omega)
  have h2 := mul_F b d (by omega) (by omega)
  have h3 := mul_F a d (by omega) (by omega)
  have h4 := mul_F b c (by omega) (by omega)
  obtain ⟨m1, q1, r1⟩ := dI_fin (decide (a < 0) ^^ decide (c < 0)) _ (near_mul _ _ ha hc)
  obtain ⟨m2, q2, r2⟩ := dI_fin (decide (b < 0) ^^ decide (d < 0)) _ (near_mul _ _ hb hd)
  obtain ⟨m3, q3, r3⟩ := dI_fin (decide (a < 0) ^^ decide (d < 0)) _ (near_mul _ _ ha hd)
  obtain ⟨m4, q4, r4⟩ := dI_fin (decide (b < 0) ^^ decide (c < 0)) _ (near_mul _ _ hb hc)
  obtain ⟨re, h5, cr, h6⟩ := (sum_fin r1 r2).2
  obtain ⟨im, h7, ci, h8⟩ := (sum_fin r3 r4).1
  refine ⟨re, im, cr, ci, ?_, h6, h8⟩
  unfold cMulBits
  rw [h1, h2, h3, h4, Option.bind_some, Option.bind_some, h5, Option.bind_some, Option.bind_some, Option.bind_some, h7]; rfl
theorem small_mul (a b : Int) (ha : -1048576 ≤ a ∧ a ≤ 1048576) (hb : -1048576 ≤ b ∧ b ≤ 1048576) : -1099511627776 ≤ a * b ∧ a * b ≤ 1099511627776 := by
  have h1 : (a * b).natAbs ≤ 1048576 * 1048576 := by
    rw [Int.natAbs_mul]; exact Nat.mul_le_mul (by omega) (by omega)
  omega
theorem mul_small (a b c d : Int) (ha : -1048576 ≤ a ∧ a ≤ 1048576) (hb : -1048576 ≤ b ∧ b ≤ 1048576) (hc : -1048576 ≤ c ∧ c ≤ 1048576) (hd : -1048576 ≤ d ∧ d ≤ 1048576) : ∃ re im, cMulBits (floatOfInt .f64 a) (floatOfInt .f64 b) (floatOfInt .f64 c) (floatOfInt .f64 d) = some (re, im) ∧ floatBits .add .f64 re 0 = some (floatOfInt .f64 (a * c - b * d)) ∧ floatBits .add .f64 im 0 = some (floatOfInt .f64 (a * d + b * c)) := by
  have k : ∀ x y : Int, (-1048576 ≤ x ∧ x ≤ 1048576) → (-1048576 ≤ y ∧ y ≤ 1048576) → IntF (dI (decide (x < 0) ^^ decide (y < 0)) (x.natAbs * y.natAbs)) (decide (x < 0) ^^ decide (y < 0)) (x.natAbs * y.natAbs) ∧ sgn (decide (x < 0) ^^ decide (y < 0)) (x.natAbs * y.natAbs) = x * y := by
    intro x y hx hy
    have hs := small_mul x y hx hy
    refine ⟨dI_int _ _ ?_, ?_⟩
    · rw [← Int.natAbs_mul]; omega
    · rw [sgn_xor, sgn_int, sgn_int]
  obtain ⟨i1, s1⟩ := k a c ha hc
  obtain ⟨i2, s2⟩ := k b d hb hd
  obtain ⟨i3, s3⟩ := k a d ha hd
  obtain ⟨i4, s4⟩ := k b c hb hc
  have b1 := small_mul a c ha hc
  have b2 := small_mul b d hb hd
  have b3 := small_mul a d ha hd
  have b4 := small_mul b c hb hc
  have h5 := sub_int i1 i2
  have h6 := add_int i3 i4
  have e5 := sgn_sumSign (decide (a < 0) ^^ decide (c < 0)) (!(decide (b < 0) ^^ decide (d < 0))) (a.natAbs * c.natAbs) (b.natAbs * d.natAbs)
  have e6 := sgn_sumSign (decide (a < 0) ^^ decide (d < 0)) (decide (b < 0) ^^ decide (c < 0)) (a.natAbs * d.natAbs) (b.natAbs * c.natAbs)
  rw [sgn_not, s1, s2, ← Int.sub_eq_add_neg] at e5
  rw [s3, s4] at e6
  rw [s1, s2] at h5
  rw [s3, s4] at h6
  obtain ⟨r5, q5, g5⟩ : ∃ r, floatBits .sub .f64 (dI (decide (a < 0) ^^ decide (c < 0)) (a.natAbs * c.natAbs)) (dI (decide (b < 0) ^^ decide (d < 0)) (b.natAbs * d.natAbs)) = some r ∧ floatBits .add .f64 r 0 = some (floatOfInt .f64 (a * c - b * d)) := ⟨_, h5, by rw [clean_int (dI_int _ _ (by omega)), e5]⟩
  obtain ⟨r6, q6, g6⟩ : ∃ r, floatBits .add .f64 (dI (decide (a < 0) ^^ decide (d < 0)) (a.natAbs * d.natAbs)) (dI (decide (b < 0) ^^ decide (c < 0)) (b.natAbs * c.natAbs)) = some r ∧ floatBits .add .f64 r 0 = some (floatOfInt .f64 (a * d + b * c)) := ⟨_, h6, by rw [clean_int (dI_int _ _ (by omega)), e6]⟩
  refine ⟨r5, r6, ?_, g5, g6⟩
  unfold cMulBits
  rw [mul_F a c (by omega) (by omega), mul_F b d (by omega) (by omega), mul_F a d (by omega) (by omega), mul_F b c (by omega) (by omega), Option.bind_some, Option.bind_some, q5, Option.bind_some, Option.bind_some, Option.bind_some, q6]; rfl
/-! the sign turned -/
theorem xor_top (r : Nat) (h : r < 9223372036854775808) : r ^^^ 9223372036854775808 = 9223372036854775808 + r := by
  rw [show 9223372036854775808 = 2 ^ 63 from rfl] at h ⊢
  have e := Nat.two_pow_add_eq_or_of_lt h 1
  rw [Nat.mul_one] at e
  rw [e, Nat.or_comm]
  apply Nat.eq_of_testBit_eq
  intro i
  rw [Nat.testBit_xor, Nat.testBit_or]
  by_cases hi : i = 63
  · subst hi; rw [Nat.testBit_lt_two_pow h]; simp
  · rw [Nat.testBit_two_pow_of_ne (fun e => hi e.symm)]; simp
theorem neg_dI (s : Bool) (k : Nat) : Op.negFloat .f64 (dI s k) = dI (!s) k := by
  have hw : ∀ (s : Bool) (r : Nat), r < 9223372036854775808 → Op.negFloat .f64 (Ieee.double.word s r) = Ieee.double.word (!s) r := by
    intro s r hr
    have e : ∀ x, Op.negFloat .f64 x = x ^^^ 9223372036854775808 := fun x => rfl
    have es : Ieee.double.signWeight = 9223372036854775808 := by decide
    unfold Ieee.Format.word
    rw [e, es]
    cases s
    · exact xor_top r hr
    · show (9223372036854775808 + r) ^^^ 9223372036854775808 = r
      rw [← xor_top r hr, Nat.xor_assoc, Nat.xor_self, Nat.xor_zero]
  have hi : Ieee.double.infRung < 9223372036854775808 := by decide
  unfold dI Ieee.Format.nearest
  by_cases h : k = 0
  · rw [if_pos h, if_pos h]; exact hw s 0 (by decide)
  · rw [if_neg h, if_neg h]
    dsimp only
    have hs : ∀ n d, Ieee.Toward.even.cut (!s) n d = Ieee.Toward.even.cut s n d := fun n d => rfl
    rw [hs]
    exact hw s _ (Nat.lt_of_le_of_lt (Nat.min_le_right _ _) hi)
theorem neg_F (a : Int) (h0 : -9007199254740992 < a) (h1 : a < 9007199254740992) : floatBits .add .f64 (Op.negFloat .f64 (floatOfInt .f64 a)) 0 = some (floatOfInt .f64 (-a)) := by
  rw [F_eq, neg_dI, clean_int (dI_int _ _ (by omega)), sgn_not, sgn_int]
/-! singles -/
theorem F32 (n : Int) (h0 : -16777216 < n) (h1 : n < 16777216) : floatToFloatBits .f64 (floatOfInt .f64 n) .f32 = some (floatOfInt .f32 n) := by
  obtain ⟨m, p, e1, h2, h3, h4⟩ := int_place (F_int n (by omega) (by omega))
  have e2 : FloatKind.f64.decode (floatOfInt .f64 n) = .number (decide (n < 0)) m p := e1
  have ew : Ieee.single.nearest (decide (n < 0)) m p = Ieee.single.nearest (decide (n < 0)) n.natAbs 0 := by
    rcases h2 with ⟨ha, hm⟩ | ⟨ha, hp⟩
    · rw [ha, hm, word_zero, word_zero]
    · refine nearest_value Ieee.single _ m n.natAbs p 0 (by rw [sl]; omega) (by rw [sl]; decide) ?_
      rw [sl]
      obtain ⟨E, hE⟩ : ∃ E : Nat, E = 1074 := ⟨_, rfl⟩
      have hU : Ubig = 2 ^ E := by rw [hE]; exact Ubig_eq
      obtain ⟨W, hW⟩ : ∃ W : Nat, W = 2 ^ (E - 149) := ⟨_, rfl⟩
      have hW0 : 0 < W := by rw [hW]; exact Nat.two_pow_pos _
      have e3 : 2 ^ (p - (-149 : Int)).toNat * W = 2 ^ (p + 1074).toNat := by
        rw [hW, ← Nat.pow_add, show (p - (-149 : Int)).toNat + (E - 149) = (p + 1074).toNat by omega]
      have e4 : 2 ^ (0 - (-149 : Int)).toNat * W = Ubig := by
        rw [hW, ← Nat.pow_add, hU, show (0 - (-149 : Int)).toNat + (E - 149) = E by omega]
      clear hW
      refine Nat.eq_of_mul_eq_mul_right hW0 ?_
      rw [Nat.mul_assoc, e3, Nat.mul_assoc, e4, h4]
  have hn : ∃ k q, Ieee.single.read (Ieee.single.nearest (decide (n < 0)) n.natAbs 0) = .number (decide (n < 0)) k q := by
    refine read_nearest_fin Ieee.single _ _ _ ?_
    have hl : n.natAbs.log2 ≤ 24 := by
      by_cases h0 : n.natAbs = 0
      · rw [h0]; decide
      · have := (Nat.log2_lt h0).2 (show n.natAbs < 2 ^ 24 by omega); omega
    rw [sl]
    show (max ((0 : Int) + (n.natAbs.log2 : Int) - ((23 : Nat) : Int)) (-149) - (-149)).toNat + 4 ≤ 2 ^ 8
    omega
  obtain ⟨k, q, hn⟩ := hn
  have ef : FloatKind.f32.encode (.number (decide (n < 0)) m p) = floatOfInt .f32 n := ew
  have ei : (FloatKind.f32.decode (floatOfInt .f32 n)).isInfinity = false := by
    have : FloatKind.f32.decode (floatOfInt .f32 n) = .number (decide (n < 0)) k q := hn
    rw [this]; rfl
  unfold floatToFloatBits
  rw [if_neg (by decide), e2]
  show (if (FloatKind.f32.decode (FloatKind.f32.encode (.number (decide (n < 0)) m p))).isInfinity then none else some (FloatKind.f32.encode (.number (decide (n < 0)) m p))) = _
  rw [ef, ei]; rfl
theorem F32_word (n : Int) (h : n ≠ 0) (h1 : n.natAbs < 16777216) : floatOfInt .f32 n = (if n < 0 then 2147483648 else 0) + ((n.natAbs.log2 + 126) * 8388608 + n.natAbs * 2 ^ (23 - n.natAbs.log2)) := by
  have hk : n.natAbs ≠ 0 := by omega
  have hl : n.natAbs.log2 ≤ 23 := by
    have := (Nat.log2_lt hk).2 (show n.natAbs < 2 ^ 24 from h1); omega
  have hL := (Nat.log2_eq_iff hk).1 rfl
  show Ieee.single.nearest (decide (n < 0)) n.natAbs 0 = _
  unfold Ieee.Format.nearest
  rw [if_neg hk]
  dsimp only
  have hf : Ieee.single.fractionBits = 23 := rfl
  have hb : Ieee.single.binade = 8388608 := by decide
  have hi : Ieee.single.infRung = 255 * 8388608 := by decide
  have hs : Ieee.single.signWeight = 2147483648 := by decide
  rw [sl, hf, hb, hi]
  have hm : max ((0 : Int) + (n.natAbs.log2 : Int) - ((23 : Nat) : Int)) (-149) = (n.natAbs.log2 : Int) - 23 := by omega
  rw [hm, show ((n.natAbs.log2 : Int) - 23 - 0).toNat = 0 by omega, cut_nought, show (0 - ((n.natAbs.log2 : Int) - 23)).toNat = 23 - n.natAbs.log2 by omega, Nat.shiftLeft_eq, show ((n.natAbs.log2 : Int) - 23 - -149).toNat = n.natAbs.log2 + 126 by omega]
  have hK : n.natAbs * 2 ^ (23 - n.natAbs.log2) < 16777216 := by
    have h2 : n.natAbs * 2 ^ (23 - n.natAbs.log2) < 2 ^ (n.natAbs.log2 + 1) * 2 ^ (23 - n.natAbs.log2) := (Nat.mul_lt_mul_right (Nat.two_pow_pos _)).2 hL.2
    rw [← Nat.pow_add, show n.natAbs.log2 + 1 + (23 - n.natAbs.log2) = 24 by omega] at h2
    exact h2
  rw [Nat.min_eq_left (by omega)]
  unfold Ieee.Format.word
  rw [hs]
  by_cases g : n < 0
  · rw [if_pos (decide_eq_true g), if_pos g]
  · rw [if_neg (by simp; omega), if_neg g, Nat.zero_add]

end Go.Proofs.Ytpojamikfcmnoaa.X
