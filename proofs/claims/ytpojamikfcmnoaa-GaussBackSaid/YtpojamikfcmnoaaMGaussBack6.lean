import Derived.Test.YtpojamikfcmnoaaMGaussBack0
import Derived.Test.YtpojamikfcmnoaaMGaussBack4
import Derived.Test.YtpojamikfcmnoaaMGaussBack5
import Derived.Test.YtpojamikfcmnoaaMGaussBack3
import Derived.Test.YtpojamikfcmnoaaMGaussBack1
import Derived.Test.YtpojamikfcmnoaaMGaussBack2
import Derived.Deep.RegionHeld3
-- by xprint.py, a program of this session, over the kit's print.py
namespace Go.Proofs.Ytpojamikfcmnoaa.X
open Go.RowKit Go.Proofs.YtpojamikfcmnoaaW.PrintWords Go.Proofs.YtpojamikfcmnoaaW.PrintLast Go.Proofs.YtpojamikfcmnoaaW.PrintMore
attribute [local go_sem] max2_int min2_int max_two min_two max_three min_three max_four min_four   -- for this text's walks alone
set_option linter.unusedVariables false
set_option linter.unusedSimpArgs false

def agateref06_Put_s.f (a b : Int) : Option (ByteArray × Int) := some (putR a b)
theorem ref06_laid (v : Nat) (h : v < 4294967296) : agateref06_laid.f (v : Int) = some (laidV v) := by
  unfold agateref06_laid.f laidV
  have e1 : Int.tmod (v : Int) 256 % 256 = (v : Int) % 256 := by
    rw [show Int.tmod (v : Int) 256 = ((v % 256 : Nat) : Int) from rfl]; omega
  have e2 : Int.tdiv (v : Int) 256 % 4294967296 % 256 = (v : Int) / 256 % 256 := by
    rw [show Int.tdiv (v : Int) 256 = ((v / 256 : Nat) : Int) from rfl]; omega
  have e3 : Int.tdiv (v : Int) 65536 % 4294967296 % 256 = (v : Int) / 65536 % 256 := by
    rw [show Int.tdiv (v : Int) 65536 = ((v / 65536 : Nat) : Int) from rfl]; omega
  have e4 : Int.tdiv (v : Int) 16777216 % 4294967296 % 256 = (v : Int) / 16777216 % 256 := by
    rw [show Int.tdiv (v : Int) 16777216 = ((v / 16777216 : Nat) : Int) from rfl]; omega
  rw [e1, e2, e3, e4]
theorem agateref06_Put_s.ev (a b : Int) (r) (h : agateref06_Put_s.f a b = some r) : ∃ k : Nat, agateref06_Put.f a b = some r := by
  refine ⟨0, ?_⟩
  rw [← h]
  show (if mayR a b = true then _ else _) = _
  unfold agateref06_Put_s.f putR
  by_cases hm : mayR a b = true
  · rw [if_pos hm, if_pos hm]
    have hs : (-1048576 ≤ a ∧ a ≤ 1048576) ∧ (-1048576 ≤ b ∧ b ≤ 1048576) := by
      unfold mayR at hm
      simpa only [Bool.and_eq_true, decide_eq_true_eq] using hm
    have e1 : agateref06_bits_s.f a = some (floatOfInt .f32 a : Int) := if_pos hs.1
    have e2 : agateref06_bits_s.f b = some (floatOfInt .f32 b : Int) := if_pos hs.2
    rw [e1, Option.bind_some, ref06_laid _ (F32_lt a), Option.bind_some, e2, Option.bind_some, ref06_laid _ (F32_lt b), Option.bind_some, if_pos (by rw [laidV_size, laidV_size]; decide)]
  · rw [if_neg hm, if_neg hm]

set_option maxHeartbeats 1000000 in
theorem agateref06_Put_s.calls (a0_0 : Int) (a0_1 : Int) (r1 : ByteArray) (r2 : Int) (w : World) (h : agateref06_Put_s.f a0_0 a0_1 = some (r1, r2)) :
    Calls Try.prog 20 #[.agg #[.int .i64 a0_0, .int .i64 a0_1]] w fun e w' => e = .returned (.tuple #[.string r1, .int .i64 r2]) ∧ Below w.heap.size w w' := by
  obtain ⟨k, hk⟩ := agateref06_Put_s.ev a0_0 a0_1 _ h
  exact agateref06_Put.calls a0_0 a0_1 r1 r2 w hk

end Go.Proofs.Ytpojamikfcmnoaa.X
-- by xprint.py, a program of this session, over the kit's print.py
namespace Go.Proofs.Ytpojamikfcmnoaa.X
open Go.RowKit Go.Proofs.YtpojamikfcmnoaaW.PrintWords Go.Proofs.YtpojamikfcmnoaaW.PrintLast Go.Proofs.YtpojamikfcmnoaaW.PrintMore
attribute [local go_sem] max2_int min2_int max_two min_two max_three min_three max_four min_four   -- for this text's walks alone
set_option linter.unusedVariables false
set_option linter.unusedSimpArgs false

def nearR (a b : Int) : Bool := decide (-1125899906842624 ≤ a ∧ a ≤ 1125899906842624) && decide (-1125899906842624 ≤ b ∧ b ≤ 1125899906842624)
theorem near_f (a b : Int) : agatelaw06_near.f a b = some (nearR a b) := by
  unfold agatelaw06_near.f nearR
  by_cases h1 : a ≥ -1125899906842624
  · rw [if_pos h1]
    by_cases h2 : a ≤ 1125899906842624
    · rw [if_pos h2, decide_eq_true (⟨h1, h2⟩ : -1125899906842624 ≤ a ∧ a ≤ 1125899906842624), Bool.true_and]
      by_cases h3 : b ≥ -1125899906842624
      · rw [if_pos h3]; congr 1; rw [decide_eq_decide]; exact ⟨fun g => ⟨h3, g⟩, fun g => g.2⟩
      · rw [if_neg h3, decide_eq_false (fun g => h3 g.1)]
    · rw [if_neg h2, decide_eq_false (fun g => h2 g.2)]; rfl
  · rw [if_neg h1, decide_eq_false (fun g => h1 g.1)]; rfl
theorem nearR_of {a b : Int} (h : nearR a b = true) : (-1125899906842624 ≤ a ∧ a ≤ 1125899906842624) ∧ (-1125899906842624 ≤ b ∧ b ≤ 1125899906842624) := by
  unfold nearR at h
  simpa only [Bool.and_eq_true, decide_eq_true_eq] using h
theorem mayE_one (a b : Int) (ha : -9007199254740992 < a ∧ a < 9007199254740992) (hb : -9007199254740992 < b ∧ b < 9007199254740992) : mayE [(floatOfInt .f64 a, floatOfInt .f64 b)] = mayR a b := by
  unfold mayE
  rw [List.all_cons, List.all_nil, Bool.and_true]
  exact mayE_F a b ha hb
theorem mayE_pair (a b c d : Int) (ha : -9007199254740992 < a ∧ a < 9007199254740992) (hb : -9007199254740992 < b ∧ b < 9007199254740992) (hc : -9007199254740992 < c ∧ c < 9007199254740992) (hd : -9007199254740992 < d ∧ d < 9007199254740992) : mayE [(floatOfInt .f64 a, floatOfInt .f64 b), (floatOfInt .f64 c, floatOfInt .f64 d)] = (mayR a b && mayR c d) := by
  unfold mayE
  rw [List.all_cons, List.all_cons, List.all_nil, Bool.and_true]
  show ((partE (floatOfInt .f64 a) && partE (floatOfInt .f64 b)) && (partE (floatOfInt .f64 c) && partE (floatOfInt .f64 d))) = _
  rw [mayE_F a b ha hb, mayE_F c d hc hd]
theorem F_zero : floatOfInt .f64 0 = 0 := by decide +kernel
theorem doneS_F (x y : Int) (l : List (Nat × Nat)) (m : Bool) (hl : mayE l = m) (hx : -9007199254740992 < x ∧ x < 9007199254740992) (hy : -9007199254740992 < y ∧ y < 9007199254740992) : doneS (floatOfInt .f64 x) (floatOfInt .f64 y) l = (if m = true then (if mayR x y = true then (floatOfInt .f64 x, floatOfInt .f64 y, 0) else (0, 0, 17)) else (0, 0, 17)) := by
  unfold doneS
  rw [hl, mayE_F x y hx hy]
  cases m
  · rfl
  · rw [Bool.true_and, if_pos rfl]
theorem doneS_no (cr ci : Nat) (l : List (Nat × Nat)) (hl : mayE l = false) : doneS cr ci l = (0, 0, 17) := by unfold doneS; rw [hl]; rfl
def toF (r : Int × Int × Int) : Nat × Nat × Int := (floatOfInt .f64 r.1, floatOfInt .f64 r.2.1, r.2.2)
theorem toF_no : toF (0, 0, 17) = (0, 0, 17) := by unfold toF; rw [F_zero]
theorem toF_if (m : Bool) (x y : Int) : toF (if m = true then (if mayR x y = true then (x, y, 0) else (0, 0, 17)) else (0, 0, 17)) = (if m = true then (if mayR x y = true then (floatOfInt .f64 x, floatOfInt .f64 y, 0) else (0, 0, 17)) else (0, 0, 17)) := by
  cases m
  · exact toF_no
  · rw [if_pos rfl, if_pos rfl]
    split
    · rfl
    · exact toF_no
theorem reckon_add (a b c d : Int) (h1 : nearR a b = true) (h2 : nearR c d = true) : ∃ re im cr ci, floatBits .add .f64 (floatOfInt .f64 a) (floatOfInt .f64 c) = some re ∧ floatBits .add .f64 (floatOfInt .f64 b) (floatOfInt .f64 d) = some im ∧ floatBits .add .f64 re 0 = some cr ∧ floatBits .add .f64 im 0 = some ci ∧ doneS cr ci [(floatOfInt .f64 a, floatOfInt .f64 b), (floatOfInt .f64 c, floatOfInt .f64 d)] = toF (doR 0 a b c d) := by
  obtain ⟨ha, hb⟩ := nearR_of h1
  obtain ⟨hc, hd⟩ := nearR_of h2
  obtain ⟨re, e1, e3⟩ := add_F a c (by omega) (by omega)
  obtain ⟨im, e2, e4⟩ := add_F b d (by omega) (by omega)
  refine ⟨re, im, _, _, e1, e2, e3, e4, ?_⟩
  rw [doneS_F _ _ _ _ (mayE_pair a b c d (by omega) (by omega) (by omega) (by omega)) (by omega) (by omega), ← toF_if]
  congr 1
theorem reckon_sub (a b c d : Int) (h1 : nearR a b = true) (h2 : nearR c d = true) : ∃ re im cr ci, floatBits .sub .f64 (floatOfInt .f64 a) (floatOfInt .f64 c) = some re ∧ floatBits .sub .f64 (floatOfInt .f64 b) (floatOfInt .f64 d) = some im ∧ floatBits .add .f64 re 0 = some cr ∧ floatBits .add .f64 im 0 = some ci ∧ doneS cr ci [(floatOfInt .f64 a, floatOfInt .f64 b), (floatOfInt .f64 c, floatOfInt .f64 d)] = toF (doR 1 a b c d) := by
  obtain ⟨ha, hb⟩ := nearR_of h1
  obtain ⟨hc, hd⟩ := nearR_of h2
  obtain ⟨re, e1, e3⟩ := sub_F a c (by omega) (by omega)
  obtain ⟨im, e2, e4⟩ := sub_F b d (by omega) (by omega)
  refine ⟨re, im, _, _, e1, e2, e3, e4, ?_⟩
  rw [doneS_F _ _ _ _ (mayE_pair a b c d (by omega) (by omega) (by omega) (by omega)) (by omega) (by omega), ← toF_if]
  congr 1
theorem reckon_mul (a b c d : Int) (h1 : nearR a b = true) (h2 : nearR c d = true) : ∃ re im cr ci, cMulBits (floatOfInt .f64 a) (floatOfInt .f64 b) (floatOfInt .f64 c) (floatOfInt .f64 d) = some (re, im) ∧ floatBits .add .f64 re 0 = some cr ∧ floatBits .add .f64 im 0 = some ci ∧ doneS cr ci [(floatOfInt .f64 a, floatOfInt .f64 b), (floatOfInt .f64 c, floatOfInt .f64 d)] = toF (doR 2 a b c d) := by
  obtain ⟨ha, hb⟩ := nearR_of h1
  obtain ⟨hc, hd⟩ := nearR_of h2
  have hm := mayE_pair a b c d (by omega) (by omega) (by omega) (by omega)
  cases hmm : (mayR a b && mayR c d) with
  | true =>
    rw [Bool.and_eq_true] at hmm
    obtain ⟨ga, gb⟩ := mayR_of0 hmm.1
    obtain ⟨gc, gd⟩ := mayR_of0 hmm.2
    obtain ⟨re, im, e1, e2, e3⟩ := mul_small a b c d ga gb gc gd
    have b1 := small_mul a c ga gc
    have b2 := small_mul b d gb gd
    have b3 := small_mul a d ga gd
    have b4 := small_mul b c gb gc
    refine ⟨re, im, _, _, e1, e2, e3, ?_⟩
    rw [doneS_F _ _ _ _ hm (by omega) (by omega), ← toF_if]
    congr 1
  | false =>
    obtain ⟨re, im, cr, ci, e1, e2, e3⟩ := mul_any a b c d (by omega) (by omega) (by omega) (by omega)
    refine ⟨re, im, cr, ci, e1, e2, e3, ?_⟩
    rw [doneS_no _ _ _ (hm.trans hmm), ← toF_no]
    congr 1
    unfold doR
    rw [if_neg]
    intro g
    rw [show ((2 : Int) == 3) = false from rfl, Bool.false_or] at g
    rw [g] at hmm; cases hmm
theorem reckon_neg (a b c d : Int) (h1 : nearR a b = true) : floatBits .add .f64 (Op.negFloat .f64 (floatOfInt .f64 a)) 0 = some (floatOfInt .f64 (-a)) ∧ floatBits .add .f64 (Op.negFloat .f64 (floatOfInt .f64 b)) 0 = some (floatOfInt .f64 (-b)) ∧ doneS (floatOfInt .f64 (-a)) (floatOfInt .f64 (-b)) [(floatOfInt .f64 a, floatOfInt .f64 b)] = toF (doR 3 a b c d) := by
  obtain ⟨ha, hb⟩ := nearR_of h1
  refine ⟨neg_F a (by omega) (by omega), neg_F b (by omega) (by omega), ?_⟩
  rw [doneS_F _ _ _ _ (mayE_one a b (by omega) (by omega)) (by omega) (by omega), ← toF_if]
  congr 1
  unfold doR
  rw [show ((3 : Int) == 3) = true from rfl, Bool.true_or, Bool.and_true]
  rfl
theorem doR_out (op a b c d : Int) : (doR op a b c d).2.2 = 0 ∧ mayR (doR op a b c d).1 (doR op a b c d).2.1 = true ∨ doR op a b c d = (0, 0, 17) := by
  unfold doR
  by_cases g : (mayR a b && ((op == 3) || mayR c d)) = true
  · rw [if_pos g]
    generalize (if op = 0 then (a + c, b + d) else if op = 1 then (a - c, b - d) else if op = 2 then (a * c - b * d, a * d + b * c) else (-a, -b)) = z
    dsimp only
    by_cases h : mayR z.1 z.2 = true
    · rw [if_pos h]; exact Or.inl ⟨rfl, h⟩
    · rw [if_neg h]; exact Or.inr rfl
  · rw [if_neg g]; exact Or.inr rfl
theorem order_F (n : Int) (h0 : -9007199254740992 < n) (h1 : n < 9007199254740992) : (FloatKind.f64.format.order (floatOfInt .f64 n) (floatOfInt .f64 n) == some .eq) = true := by
  have h : FloatKind.f64.format.order (floatOfInt .f64 n) (floatOfInt .f64 n) = _ := num_order (F_int n h0 h1) (F_int n h0 h1)
  rw [h, cmp_eq, decide_eq_true rfl]
theorem reck_Neg.calls (a b c d : Int) (h1 : nearR a b = true) (w : World) :
    Calls Try.prog 13 #[.complex .f64 (floatOfInt .f64 a) (floatOfInt .f64 b)] w fun e w' => e = .returned (.tuple #[.complex .f64 (floatOfInt .f64 (doR 3 a b c d).1) (floatOfInt .f64 (doR 3 a b c d).2.1), .int .i64 (doR 3 a b c d).2.2]) ∧ Below w.heap.size w w' := by
  obtain ⟨e1, e2, e3⟩ := reckon_neg a b c d h1
  refine (gauss_Neg.calls _ _ _ _ e1 e2 w).mono ?_
  rintro e w' ⟨rfl, hb⟩
  rw [e3]
  exact ⟨rfl, hb⟩
theorem reck_Add.calls (a b c d : Int) (h1 : nearR a b = true) (h2 : nearR c d = true) (w : World) :
    Calls Try.prog 15 #[.complex .f64 (floatOfInt .f64 a) (floatOfInt .f64 b), .complex .f64 (floatOfInt .f64 c) (floatOfInt .f64 d)] w fun e w' => e = .returned (.tuple #[.complex .f64 (floatOfInt .f64 (doR 0 a b c d).1) (floatOfInt .f64 (doR 0 a b c d).2.1), .int .i64 (doR 0 a b c d).2.2]) ∧ Below w.heap.size w w' := by
  obtain ⟨re, im, cr, ci, e1, e2, e3, e4, e5⟩ := reckon_add a b c d h1 h2
  refine (gauss_Add.calls _ _ _ _ _ _ _ _ e1 e2 e3 e4 w).mono ?_
  rintro e w' ⟨rfl, hb⟩
  rw [e5]
  exact ⟨rfl, hb⟩
theorem reck_Sub.calls (a b c d : Int) (h1 : nearR a b = true) (h2 : nearR c d = true) (w : World) :
    Calls Try.prog 16 #[.complex .f64 (floatOfInt .f64 a) (floatOfInt .f64 b), .complex .f64 (floatOfInt .f64 c) (floatOfInt .f64 d)] w fun e w' => e = .returned (.tuple #[.complex .f64 (floatOfInt .f64 (doR 1 a b c d).1) (floatOfInt .f64 (doR 1 a b c d).2.1), .int .i64 (doR 1 a b c d).2.2]) ∧ Below w.heap.size w w' := by
  obtain ⟨re, im, cr, ci, e1, e2, e3, e4, e5⟩ := reckon_sub a b c d h1 h2
  refine (gauss_Sub.calls _ _ _ _ _ _ _ _ e1 e2 e3 e4 w).mono ?_
  rintro e w' ⟨rfl, hb⟩
  rw [e5]
  exact ⟨rfl, hb⟩
theorem reck_Mul.calls (a b c d : Int) (h1 : nearR a b = true) (h2 : nearR c d = true) (w : World) :
    Calls Try.prog 17 #[.complex .f64 (floatOfInt .f64 a) (floatOfInt .f64 b), .complex .f64 (floatOfInt .f64 c) (floatOfInt .f64 d)] w fun e w' => e = .returned (.tuple #[.complex .f64 (floatOfInt .f64 (doR 2 a b c d).1) (floatOfInt .f64 (doR 2 a b c d).2.1), .int .i64 (doR 2 a b c d).2.2]) ∧ Below w.heap.size w w' := by
  obtain ⟨re, im, cr, ci, e1, e3, e4, e5⟩ := reckon_mul a b c d h1 h2
  refine (gauss_Mul.calls _ _ _ _ _ _ _ _ e1 e3 e4 w).mono ?_
  rintro e w' ⟨rfl, hb⟩
  rw [e5]
  exact ⟨rfl, hb⟩
theorem reck_Put.calls (a b : Int) (h : mayR a b = true) (w : World) :
    Calls Try.prog 19 #[.complex .f64 (floatOfInt .f64 a) (floatOfInt .f64 b)] w fun e w' => e = .returned (.tuple #[.string (laidV (floatOfInt .f32 a) ++ laidV (floatOfInt .f32 b)), .int .i64 0]) ∧ Below w.heap.size w w' := by
  obtain ⟨ha, hb⟩ := mayR_of0 h
  exact gauss_Put.calls _ _ _ _ ((mayE_one a b (by omega) (by omega)).trans h) (F32 a (by omega) (by omega)) (F32 b (by omega) (by omega)) w
theorem putR_yes (a b : Int) (h : mayR a b = true) : agateref06_Put_s.f a b = some (laidV (floatOfInt .f32 a) ++ laidV (floatOfInt .f32 b), 0) := by
  unfold agateref06_Put_s.f putR; rw [if_pos h]

end Go.Proofs.Ytpojamikfcmnoaa.X
-- by xprint.py, a program of this session, over the kit's print.py
namespace Go.Proofs.Ytpojamikfcmnoaa.X
open Go.RowKit Go.Proofs.YtpojamikfcmnoaaW.PrintWords Go.Proofs.YtpojamikfcmnoaaW.PrintLast Go.Proofs.YtpojamikfcmnoaaW.PrintMore
attribute [local go_sem] max2_int min2_int max_two min_two max_three min_three max_four min_four   -- for this text's walks alone
set_option linter.unusedVariables false
set_option linter.unusedSimpArgs false

theorem bits_ok (b : ByteArray) (h : 4 ≤ b.size) : gauss_bits_s.f b = some (wd b : Int) := if_pos h
def readF (b : ByteArray) : Nat × Nat × Int := (floatOfInt .f64 (readR b).1, floatOfInt .f64 (readR b).2.1, (readR b).2.2)
theorem readF_short (b : ByteArray) (h : b.size < 8) : readF b = (0, 0, 1) := by unfold readF readR; rw [if_pos h]; simp only [F_zero]
theorem readF_long (b : ByteArray) (h : b.size > 8) : readF b = (0, 0, 2) := by unfold readF readR; rw [if_neg (by omega), if_pos h]; simp only [F_zero]
theorem readF_no (b : ByteArray) (h : b.size = 8) (h2 : ((wholeS (wd b)).2 && (wholeS (wd (b.extract 4 b.size))).2) = false) : readF b = (0, 0, 17) := by
  unfold readF readR; rw [if_neg (by omega), if_neg (by omega), h2, if_neg (by simp)]; simp only [F_zero]
theorem readF_yes (b : ByteArray) (h : b.size = 8) (h2 : ((wholeS (wd b)).2 && (wholeS (wd (b.extract 4 b.size))).2) = true) : readF b = (floatOfInt .f64 (wholeS (wd b)).1, floatOfInt .f64 (wholeS (wd (b.extract 4 b.size))).1, 0) := by
  unfold readF readR; rw [if_neg (by omega), if_neg (by omega), if_pos h2]
theorem may_one (g : Nat) (W : World) (x y : Nat) (hg : g = W.heap.size) :
    Calls Try.prog 55 #[.slice (some ⟨g, 0, none⟩) 1 1] (W.alloc (Obj.cells #[.complex .f64 x y] 26)) fun e w' => e = .returned (.bool (partE x && partE y)) ∧ w' = W.alloc (Obj.cells #[.complex .f64 x y] 26) := by
  subst hg
  have h := gauss_may.calls ⟨W.heap.size, 0, none⟩ 1 [(x, y)] _ (Nat.le_refl _) (by simp) (cells_one W x y 26)
  have e : mayE [(x, y)] = (partE x && partE y) := by unfold mayE; rw [List.all_cons, List.all_nil, Bool.and_true]
  rw [e] at h
  exact h
structure RB (w0 w : World) : Prop where
  b : Below w0.heap.size w0 w
theorem bits_keep {w0 w : World} (h : RB w0 w) (b : ByteArray) (r : Int) (hf : gauss_bits_s.f b = some r) :
    Calls Try.prog 61 #[.string b] w fun e w' => e = .returned (.int .u32 r) ∧ RB w0 w' := by
  refine (gauss_bits_s.calls b r w hf).mono ?_
  rintro e w' ⟨he, hb⟩
  exact ⟨he, ⟨below_step h.b hb.below⟩⟩
set_option maxHeartbeats 8000000 in
set_option maxRecDepth 100000 in
theorem gauss_Read.calls (b : ByteArray) (w : World) :
    Calls Try.prog 24 #[.string b] w fun e w' => e = .returned (.tuple #[.complex .f64 (readF b).1 (readF b).2.1, .int .i64 (readF b).2.2]) ∧ Below w.heap.size w w' := by
  by_cases h1 : b.size < 8
  · have h1b : decide ((b.size : Int) < 8) = true := decide_eq_true (by omega)
    rw [readF_short b h1]
    clear h1
    go_enter Try.func24, Try.ntmps24
    go_wp2
    go_ret2
    exact ⟨rfl, Below.refl _ _⟩
  · have h1b : decide ((b.size : Int) < 8) = false := decide_eq_false (by omega)
    by_cases h2 : b.size > 8
    · have h2b : decide (8 < (b.size : Int)) = true := decide_eq_true (by omega)
      rw [readF_long b h2]
      clear h1 h2
      go_enter Try.func24, Try.ntmps24
      go_wp2
      go_ret2
      exact ⟨rfl, Below.refl _ _⟩
    · have h2b : decide (8 < (b.size : Int)) = false := decide_eq_false (by omega)
      have h8 : b.size = 8 := by omega
      have hw1 := wd_lt b
      have e8 : b.extract 4 b.size = b.extract 4 8 := by rw [h8]
      have hw2 := wd_lt (b.extract 4 8)
      obtain ⟨g1, n1, p1, f1, r1⟩ := wide_run (wd b) hw1
      obtain ⟨g2, n2, p2, f2, r2⟩ := wide_run (wd (b.extract 4 8)) hw2
      have hno := readF_no b h8
      have hyes := readF_yes b h8
      rw [e8] at hno hyes
      have Hno := Aside0.mk hno
      have Hyes := Aside0.mk hyes
      clear hno hyes
      have HB1 := Aside0.mk (bits_ok b (by omega))
      have HB2 := Aside0.mk (bits_ok (b.extract 4 8) (by rw [ByteArray.size_extract]; omega))
      have q1 := float32frombits_run (wd b : Int)
      have q2 := float32frombits_run (wd (b.extract 4 8) : Int)
      rw [Int.toNat_natCast] at q1 q2
      have P1 := Aside0.mk p1
      have P2 := Aside0.mk p2
      have F1 := Aside0.mk f1
      have F2 := Aside0.mk f2
      clear p1 p2 f1 f2 h1 h2 hw1 hw2 e8
      have h4 : (4 ≤ (b.size : Int)) = True := eq_true (by omega)
      have h4n : (4 ≤ b.size) = True := eq_true (by omega)
      have h4s : ((b.size : Int) < 4) = False := eq_false (by omega)
      go_enter Try.func24, Try.ntmps24
      have HR : RB w w := ⟨Below.refl _ _⟩
      have hdr : ∀ w' n, RB w w' → RB w (w'.drewN n) := fun w' n h => ⟨pw_below_drewN h.b n⟩
      have hdr1 : ∀ w', RB w w' → RB w w'.drew := fun w' h => ⟨below_drew1 h.b⟩
      go_wp2_with (first | (fail))
      refine wp_region_noPanic ?_
      refine wp_region_held_drew (S := fun w' => RB w w') (by kernel_rfl) ?_ (fun hHeld => ?_)
      · exact hdr1 _ HR
      refine' wpAnyH_take (i := 0) (oi := _) (v := ?_) rfl (by kernel_rfl) (by kernel_rfl) (by kernel_rfl) (fun _ _ _ h => h) (Or.inl ⟨by rfl, ?_⟩) (by assumption) ?_
      rotate_left
      · intro w hSw; (try dsimp only at hSw); go_simp; first | done | with_reducible rfl
      try simp only [Act.put, List.setIfInBounds_toArray, List.set_cons_zero, List.set_cons_succ]
      refine' wpAnyH_take (i := 4) (oi := _) (v := ?_) rfl (by kernel_rfl) (by kernel_rfl) (by kernel_rfl) (fun _ _ _ h => h) (Or.inl ⟨by rfl, ?_⟩) (by assumption) ?_
      rotate_left
      · intro w hSw; (try dsimp only at hSw); go_simp; first | done | with_reducible rfl
      try simp only [Act.put, List.setIfInBounds_toArray, List.set_cons_zero, List.set_cons_succ]
      refine' wpAnyH_take (i := 5) (oi := _) (v := ?_) rfl (by kernel_rfl) (by kernel_rfl) (by kernel_rfl) (fun _ _ _ h => h) (Or.inl ⟨by rfl, ?_⟩) (by assumption) ?_
      rotate_left
      · intro w hSw; (try dsimp only at hSw); go_simp; first | done | with_reducible rfl
      try simp only [Act.put, List.setIfInBounds_toArray, List.set_cons_zero, List.set_cons_succ]
      refine wpAnyH_ready (rs := [1]) (by kernel_rfl) (by simp) ?_
      refine AllReadyH.cons (o := _) rfl (fun K hK => ?_) ?_
      · go_simp
        go_at_call 61
        refine (bits_keep (by assumption) b _ HB1.out).mono ?_
        rintro e w5 ⟨rfl, HR⟩
        go_wp2_with fail
        refine hK.out _ _ ?_ (fun hHeld => ?_)
        · (try dsimp only); first | assumption | go_keep
        clear hK K
        try simp only [Act.put, List.setIfInBounds_toArray, List.set_cons_zero, List.set_cons_succ]
        refine wpAnyH_ready (rs := [2]) (by kernel_rfl) (by simp) ?_
        refine AllReadyH.cons (o := _) rfl (fun K hK => ?_) ?_
        · go_simp
          refine hK.out _ _ ?_ (fun hHeld => ?_)
          · (try dsimp only); first | assumption | go_keep
          clear hK K
          try simp only [Act.put, List.setIfInBounds_toArray, List.set_cons_zero, List.set_cons_succ]
          refine wpAnyH_ready (rs := [3, 6]) (by kernel_rfl) (by simp) ?_
          refine AllReadyH.cons (o := _) rfl (fun K hK => ?_) ?_
          · go_simp
            refine hK.out _ _ ?_ (fun hHeld => ?_)
            · (try dsimp only); first | assumption | go_keep
            clear hK K
            try simp only [Act.put, List.setIfInBounds_toArray, List.set_cons_zero, List.set_cons_succ]
            refine wpAnyH_ready (rs := [6]) (by kernel_rfl) (by simp) ?_
            refine AllReadyH.cons (o := _) rfl (fun K hK => ?_) ?_
            · go_simp
              go_at_call 61
              refine (bits_keep (by assumption) (b.extract 4 8) _ HB2.out).mono ?_
              rintro e w5 ⟨rfl, HR⟩
              go_wp2_with fail
              refine hK.out _ _ ?_ (fun hHeld => ?_)
              · (try dsimp only); first | assumption | go_keep
              clear hK K
              try simp only [Act.put, List.setIfInBounds_toArray, List.set_cons_zero, List.set_cons_succ]
              refine wpAnyH_ready (rs := [7]) (by kernel_rfl) (by simp) ?_
              refine AllReadyH.cons (o := _) rfl (fun K hK => ?_) ?_
              · go_simp
                refine hK.out _ _ ?_ (fun hHeld => ?_)
                · (try dsimp only); first | assumption | go_keep
                clear hK K
                try simp only [Act.put, List.setIfInBounds_toArray, List.set_cons_zero, List.set_cons_succ]
                refine wpAnyH_ready (rs := [8]) (by kernel_rfl) (by simp) ?_
                refine AllReadyH.cons (o := _) rfl (fun K hK => ?_) ?_
                · go_simp
                  refine hK.out _ _ ?_ (fun hHeld => ?_)
                  · (try dsimp only); first | assumption | go_keep
                  clear hK K
                  try simp only [Act.put, List.setIfInBounds_toArray, List.set_cons_zero, List.set_cons_succ]
                  refine wpAnyH_ready (rs := [9]) (by kernel_rfl) (by simp) ?_
                  refine AllReadyH.cons (o := _) rfl (fun K hK => ?_) ?_
                  · go_simp
                    refine hK.out _ _ ?_ (fun hHeld => ?_)
                    · (try dsimp only); first | assumption | go_keep
                    clear hK K
                    try simp only [Act.put, List.setIfInBounds_toArray, List.set_cons_zero, List.set_cons_succ]
                    refine wpAnyH_ready (rs := [10]) (by kernel_rfl) (by simp) ?_
                    refine AllReadyH.cons (o := _) rfl (fun K hK => ?_) ?_
                    · go_simp
                      refine hK.out _ _ ?_ (fun hHeld => ?_)
                      · (try dsimp only); first | assumption | go_keep
                      clear hK K
                      try simp only [Act.put, List.setIfInBounds_toArray, List.set_cons_zero, List.set_cons_succ]
                      refine wpAnyH_done (by kernel_rfl) ?_ _
                      refine NoPanic.normal ?_
                      clear r1 r2 q1 q2
                      go_wp2_with (first | (fail))
                      refine (may_one _ _ _ _ rfl).mono ?_
                      rintro e wm ⟨rfl, rfl⟩
                      rw [P1.out, P2.out]
                      cases hm : ((wholeS (wd b)).2 && (wholeS (wd (b.extract 4 8))).2) with
                      | false =>
                        go_wp2_with (first | (fail))
                        go_ret2
                        exact ⟨by rw [Hno.out hm]; rfl, by repeat (first | exact HR.b | apply below_alloc | apply pw_below_drewN | apply below_drew1)⟩
                      | true =>
                        have hm2 := Bool.and_eq_true _ _ ▸ hm
                        go_wp2_with (first | (fail))
                        go_ret2
                        exact ⟨by rw [Hyes.out hm]; show Ending.returned (.tuple #[.complex .f64 (g1 _) (g2 _), .int .i64 0]) = _; rw [F1.out hm2.1, F2.out hm2.2], by repeat (first | exact HR.b | apply below_alloc | apply pw_below_drewN | apply below_drew1)⟩
                    exact AllReadyH.nil
                  exact AllReadyH.nil
                exact AllReadyH.nil
              exact AllReadyH.nil
            exact AllReadyH.nil
          refine AllReadyH.cons (o := _) rfl (fun K hK => ?_) ?_
          · go_simp
            go_at_call 61
            refine (bits_keep (by assumption) (b.extract 4 8) _ HB2.out).mono ?_
            rintro e w5 ⟨rfl, HR⟩
            go_wp2_with fail
            refine hK.out _ _ ?_ (fun hHeld => ?_)
            · (try dsimp only); first | assumption | go_keep
            clear hK K
            try simp only [Act.put, List.setIfInBounds_toArray, List.set_cons_zero, List.set_cons_succ]
            refine wpAnyH_ready (rs := [3, 7]) (by kernel_rfl) (by simp) ?_
            refine AllReadyH.cons (o := _) rfl (fun K hK => ?_) ?_
            · go_simp
              refine hK.out _ _ ?_ (fun hHeld => ?_)
              · (try dsimp only); first | assumption | go_keep
              clear hK K
              try simp only [Act.put, List.setIfInBounds_toArray, List.set_cons_zero, List.set_cons_succ]
              refine wpAnyH_ready (rs := [7]) (by kernel_rfl) (by simp) ?_
              refine AllReadyH.cons (o := _) rfl (fun K hK => ?_) ?_
              · go_simp
                refine hK.out _ _ ?_ (fun hHeld => ?_)
                · (try dsimp only); first | assumption | go_keep
                clear hK K
                try simp only [Act.put, List.setIfInBounds_toArray, List.set_cons_zero, List.set_cons_succ]
                refine wpAnyH_ready (rs := [8]) (by kernel_rfl) (by simp) ?_
                refine AllReadyH.cons (o := _) rfl (fun K hK => ?_) ?_
                · go_simp
                  refine hK.out _ _ ?_ (fun hHeld => ?_)
                  · (try dsimp only); first | assumption | go_keep
                  clear hK K
                  try simp only [Act.put, List.setIfInBounds_toArray, List.set_cons_zero, List.set_cons_succ]
                  refine wpAnyH_ready (rs := [9]) (by kernel_rfl) (by simp) ?_
                  refine AllReadyH.cons (o := _) rfl (fun K hK => ?_) ?_
                  · go_simp
                    refine hK.out _ _ ?_ (fun hHeld => ?_)
                    · (try dsimp only); first | assumption | go_keep
                    clear hK K
                    try simp only [Act.put, List.setIfInBounds_toArray, List.set_cons_zero, List.set_cons_succ]
                    refine wpAnyH_ready (rs := [10]) (by kernel_rfl) (by simp) ?_
                    refine AllReadyH.cons (o := _) rfl (fun K hK => ?_) ?_
                    · go_simp
                      refine hK.out _ _ ?_ (fun hHeld => ?_)
                      · (try dsimp only); first | assumption | go_keep
                      clear hK K
                      try simp only [Act.put, List.setIfInBounds_toArray, List.set_cons_zero, List.set_cons_succ]
                      refine wpAnyH_done (by kernel_rfl) ?_ _
                      refine NoPanic.normal ?_
                      clear r1 r2 q1 q2
                      go_wp2_with (first | (fail))
                      refine (may_one _ _ _ _ rfl).mono ?_
                      rintro e wm ⟨rfl, rfl⟩
                      rw [P1.out, P2.out]
                      cases hm : ((wholeS (wd b)).2 && (wholeS (wd (b.extract 4 8))).2) with
                      | false =>
                        go_wp2_with (first | (fail))
                        go_ret2
                        exact ⟨by rw [Hno.out hm]; rfl, by repeat (first | exact HR.b | apply below_alloc | apply pw_below_drewN | apply below_drew1)⟩
                      | true =>
                        have hm2 := Bool.and_eq_true _ _ ▸ hm
                        go_wp2_with (first | (fail))
                        go_ret2
                        exact ⟨by rw [Hyes.out hm]; show Ending.returned (.tuple #[.complex .f64 (g1 _) (g2 _), .int .i64 0]) = _; rw [F1.out hm2.1, F2.out hm2.2], by repeat (first | exact HR.b | apply below_alloc | apply pw_below_drewN | apply below_drew1)⟩
                    exact AllReadyH.nil
                  exact AllReadyH.nil
                exact AllReadyH.nil
              exact AllReadyH.nil
            refine AllReadyH.cons (o := _) rfl (fun K hK => ?_) ?_
            · go_simp
              refine hK.out _ _ ?_ (fun hHeld => ?_)
              · (try dsimp only); first | assumption | go_keep
              clear hK K
              try simp only [Act.put, List.setIfInBounds_toArray, List.set_cons_zero, List.set_cons_succ]
              refine wpAnyH_ready (rs := [3, 8]) (by kernel_rfl) (by simp) ?_
              refine AllReadyH.cons (o := _) rfl (fun K hK => ?_) ?_
              · go_simp
                refine hK.out _ _ ?_ (fun hHeld => ?_)
                · (try dsimp only); first | assumption | go_keep
                clear hK K
                try simp only [Act.put, List.setIfInBounds_toArray, List.set_cons_zero, List.set_cons_succ]
                refine wpAnyH_ready (rs := [8]) (by kernel_rfl) (by simp) ?_
                refine AllReadyH.cons (o := _) rfl (fun K hK => ?_) ?_
                · go_simp
                  refine hK.out _ _ ?_ (fun hHeld => ?_)
                  · (try dsimp only); first | assumption | go_keep
                  clear hK K
                  try simp only [Act.put, List.setIfInBounds_toArray, List.set_cons_zero, List.set_cons_succ]
                  refine wpAnyH_ready (rs := [9]) (by kernel_rfl) (by simp) ?_
                  refine AllReadyH.cons (o := _) rfl (fun K hK => ?_) ?_
                  · go_simp
                    refine hK.out _ _ ?_ (fun hHeld => ?_)
                    · (try dsimp only); first | assumption | go_keep
                    clear hK K
                    try simp only [Act.put, List.setIfInBounds_toArray, List.set_cons_zero, List.set_cons_succ]
                    refine wpAnyH_ready (rs := [10]) (by kernel_rfl) (by simp) ?_
                    refine AllReadyH.cons (o := _) rfl (fun K hK => ?_) ?_
                    · go_simp
                      refine hK.out _ _ ?_ (fun hHeld => ?_)
                      · (try dsimp only); first | assumption | go_keep
                      clear hK K
                      try simp only [Act.put, List.setIfInBounds_toArray, List.set_cons_zero, List.set_cons_succ]
                      refine wpAnyH_done (by kernel_rfl) ?_ _
                      refine NoPanic.normal ?_
                      clear r1 r2 q1 q2
                      go_wp2_with (first | (fail))
                      refine (may_one _ _ _ _ rfl).mono ?_
                      rintro e wm ⟨rfl, rfl⟩
                      rw [P1.out, P2.out]
                      cases hm : ((wholeS (wd b)).2 && (wholeS (wd (b.extract 4 8))).2) with
                      | false =>
                        go_wp2_with (first | (fail))
                        go_ret2
                        exact ⟨by rw [Hno.out hm]; rfl, by repeat (first | exact HR.b | apply below_alloc | apply pw_below_drewN | apply below_drew1)⟩
                      | true =>
                        have hm2 := Bool.and_eq_true _ _ ▸ hm
                        go_wp2_with (first | (fail))
                        go_ret2
                        exact ⟨by rw [Hyes.out hm]; show Ending.returned (.tuple #[.complex .f64 (g1 _) (g2 _), .int .i64 0]) = _; rw [F1.out hm2.1, F2.out hm2.2], by repeat (first | exact HR.b | apply below_alloc | apply pw_below_drewN | apply below_drew1)⟩
                    exact AllReadyH.nil
                  exact AllReadyH.nil
                exact AllReadyH.nil
              refine AllReadyH.cons (o := _) rfl (fun K hK => ?_) ?_
              · go_simp
                refine hK.out _ _ ?_ (fun hHeld => ?_)
                · (try dsimp only); first | assumption | go_keep
                clear hK K
                try simp only [Act.put, List.setIfInBounds_toArray, List.set_cons_zero, List.set_cons_succ]
                refine wpAnyH_ready (rs := [3]) (by kernel_rfl) (by simp) ?_
                refine AllReadyH.cons (o := _) rfl (fun K hK => ?_) ?_
                · go_simp
                  refine hK.out _ _ ?_ (fun hHeld => ?_)
                  · (try dsimp only); first | assumption | go_keep
                  clear hK K
                  try simp only [Act.put, List.setIfInBounds_toArray, List.set_cons_zero, List.set_cons_succ]
                  refine wpAnyH_ready (rs := [9]) (by kernel_rfl) (by simp) ?_
                  refine AllReadyH.cons (o := _) rfl (fun K hK => ?_) ?_
                  · go_simp
                    refine hK.out _ _ ?_ (fun hHeld => ?_)
                    · (try dsimp only); first | assumption | go_keep
                    clear hK K
                    try simp only [Act.put, List.setIfInBounds_toArray, List.set_cons_zero, List.set_cons_succ]
                    refine wpAnyH_ready (rs := [10]) (by kernel_rfl) (by simp) ?_
                    refine AllReadyH.cons (o := _) rfl (fun K hK => ?_) ?_
                    · go_simp
                      refine hK.out _ _ ?_ (fun hHeld => ?_)
                      · (try dsimp only); first | assumption | go_keep
                      clear hK K
                      try simp only [Act.put, List.setIfInBounds_toArray, List.set_cons_zero, List.set_cons_succ]
                      refine wpAnyH_done (by kernel_rfl) ?_ _
                      refine NoPanic.normal ?_
                      clear r1 r2 q1 q2
                      go_wp2_with (first | (fail))
                      refine (may_one _ _ _ _ rfl).mono ?_
                      rintro e wm ⟨rfl, rfl⟩
                      rw [P1.out, P2.out]
                      cases hm : ((wholeS (wd b)).2 && (wholeS (wd (b.extract 4 8))).2) with
                      | false =>
                        go_wp2_with (first | (fail))
                        go_ret2
                        exact ⟨by rw [Hno.out hm]; rfl, by repeat (first | exact HR.b | apply below_alloc | apply pw_below_drewN | apply below_drew1)⟩
                      | true =>
                        have hm2 := Bool.and_eq_true _ _ ▸ hm
                        go_wp2_with (first | (fail))
                        go_ret2
                        exact ⟨by rw [Hyes.out hm]; show Ending.returned (.tuple #[.complex .f64 (g1 _) (g2 _), .int .i64 0]) = _; rw [F1.out hm2.1, F2.out hm2.2], by repeat (first | exact HR.b | apply below_alloc | apply pw_below_drewN | apply below_drew1)⟩
                    exact AllReadyH.nil
                  exact AllReadyH.nil
                exact AllReadyH.nil
              exact AllReadyH.nil
            exact AllReadyH.nil
          exact AllReadyH.nil
        exact AllReadyH.nil
      exact AllReadyH.nil
theorem wholeS_small (v : Nat) (h : (wholeS v).2 = true) : -1048576 ≤ (wholeS v).1 ∧ (wholeS v).1 ≤ 1048576 := by
  unfold wholeS at h ⊢
  by_cases h0 : v = 0
  · rw [if_pos h0]; decide
  · rw [if_neg h0] at h ⊢
    by_cases h1 : v / 8388608 % 256 < 127 ∨ v / 8388608 % 256 > 147
    · rw [if_pos h1] at h; cases h
    · rw [if_neg h1] at h ⊢
      by_cases h2 : (v % 8388608 + 8388608) % 2 ^ (150 - v / 8388608 % 256) = 0
      · rw [if_pos h2] at h ⊢
        have := of_decide_eq_true h
        generalize (v % 8388608 + 8388608) / 2 ^ (150 - v / 8388608 % 256) = k at this ⊢
        unfold sgn
        dsimp only
        split <;> omega
      · rw [if_neg h2] at h; cases h
theorem readR_small (b : ByteArray) : (-1048576 ≤ (readR b).1 ∧ (readR b).1 ≤ 1048576) ∧ (-1048576 ≤ (readR b).2.1 ∧ (readR b).2.1 ≤ 1048576) := by
  unfold readR
  by_cases h1 : b.size < 8
  · rw [if_pos h1]; decide
  · rw [if_neg h1]
    by_cases h2 : b.size > 8
    · rw [if_pos h2]; decide
    · rw [if_neg h2]
      by_cases h3 : ((wholeS (wd b)).2 && (wholeS (wd (b.extract 4 b.size))).2) = true
      · rw [if_pos h3]
        rw [Bool.and_eq_true] at h3
        exact ⟨wholeS_small _ h3.1, wholeS_small _ h3.2⟩
      · rw [if_neg h3]; decide
theorem reck_PutN.calls (a b : Int) (h : nearR a b = true) (w : World) :
    Calls Try.prog 19 #[.complex .f64 (floatOfInt .f64 a) (floatOfInt .f64 b)] w fun e w' => e = .returned (.tuple #[.string (putR a b).1, .int .i64 (putR a b).2]) ∧ Below w.heap.size w w' := by
  obtain ⟨ha, hb⟩ := nearR_of h
  unfold putR
  cases hm : mayR a b with
  | true =>
    rw [if_pos rfl]
    exact reck_Put.calls a b hm w
  | false =>
    rw [if_neg (by simp)]
    exact gauss_Put.refused _ _ ((mayE_one a b (by omega) (by omega)).trans hm) w

end Go.Proofs.Ytpojamikfcmnoaa.X
